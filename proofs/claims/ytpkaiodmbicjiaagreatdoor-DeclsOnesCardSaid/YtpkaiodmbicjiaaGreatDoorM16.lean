/- Part 16 of what the proof rests on. -/
import Derived.Deep.RegionHeld3
import Derived.Test.YtpkaiodmbicjiaaGreatDoorM05
import Derived.Test.YtpkaiodmbicjiaaGreatDoorM10
import Derived.Test.YtpkaiodmbicjiaaGreatDoorM14
import Derived.Test.YtpkaiodmbicjiaaGreatDoorM15
import Derived.Test.YtpkaiodmbicjiaaGreatDoorM00
set_option linter.unusedSimpArgs false
set_option linter.unusedVariables false
set_option maxRecDepth 100000
set_option maxHeartbeats 4000000
namespace Go.Proofs.YtpkaiodmbicjiaaGreatDoor
open Go.Proofs.Tryz
open Go.Lx Go.RowKit
section
variable {w0 : World}
theorem wPA(x:Sx)(cs st:List ByteArray){cv dv bv:Value}(hl:qM x.word=none)(hk:nH x.word=false) :
 Calls prog 67 #[.agg #[cv,dv],sxV x,bv] w0 (lEA w0 (gG cs x.pos x.word st)):=by
 have hW:gG cs x.pos x.word st = .error (71,x.pos):=by simp[gG,hl,hk]
 rw[hW];have HF:=aA (λw=>oV (w0:=w) x.word);have hlu:rU x.word=(0,false):=by rw[gY,hl];rfl
 rw[hlu]at HF;have HNm:=aA (λw=>lJ (w0:=w) x.word);have HKw:=aA (λw=>xN (w0:=w) x.word);have hnk:fD x.word=false∨(fD x.word=true/\kwW x.word=true):=by
  unfold nH at hk
  cases h:fD x.word
  . exact .inl rfl
  . rw[h]at hk;exact .inr ⟨rfl,by simpa using hk⟩
 clear hW hl hlu hk;rcases hnk with ha|⟨ha,hb⟩
 all_goals
  rw[ha]at HNm
  try rw[hb]at HKw
  try clear hb
  clear ha;obtain⟨mm,pp,s⟩:=x;simp only at *;unfold sxV;simp only;have HX:=aA (show BoxAt (((w0.alloc (.cells #[cv,dv] 91)).alloc (.cells #[.int .i64 mm,.int .i64 pp,.string s] 29)).alloc (.cells #[.int .i64 0,.int .i64 0] 110)) (w0.heap.size+1) 29 #[.int .i64 mm,.int .i64 pp,.string s] from by
    have:=zA (w0.alloc (.cells #[cv,dv] 91)) #[.int .i64 mm,.int .i64 pp,.string s] 29;rw[World.size_alloc]at this;exact this.alloc _)
  have HNa:=aA (show BoxAt (((w0.alloc (.cells #[cv,dv] 91)).alloc (.cells #[.int .i64 mm,.int .i64 pp,.string s] 29)).alloc (.cells #[.int .i64 0,.int .i64 0] 110)) w0.heap.size 91 #[cv,dv] from((zA w0 _ _).alloc _).alloc _);have HFt:=aA (show BoxAt (((w0.alloc (.cells #[cv,dv] 91)).alloc (.cells #[.int .i64 mm,.int .i64 pp,.string s] 29)).alloc (.cells #[.int .i64 0,.int .i64 0] 110)) (w0.heap.size+1+1) 110 #[.int .i64 0,.int .i64 0] from by
    have:=zA ((w0.alloc (.cells #[cv,dv] 91)).alloc (.cells #[.int .i64 mm,.int .i64 pp,.string s] 29)) #[.int .i64 0,.int .i64 0] 110;rw[World.size_alloc,World.size_alloc]at this;exact this)
  have HUa:=aA (show Under w0 (((w0.alloc (.cells #[cv,dv] 91)).alloc (.cells #[.int .i64 mm,.int .i64 pp,.string s] 29)).alloc (.cells #[.int .i64 0,.int .i64 0] 110)) from bA (bA (bA (Qu _) _) _) _);go_enter func67,ntmps67;go_wp2_with fail;generalize ((w0.alloc (.cells #[cv,dv] 91)).alloc (.cells #[.int .i64 mm,.int .i64 pp,.string s] 29)).alloc (.cells #[.int .i64 0,.int .i64 0] 110)=wA at *;refine(HF.out _).mono ?_;rintro e w1 ⟨rfl,hU1⟩;have HX1:=aA (HX.out.under (bA hU1 (.cells #[.int .i64 (0),.int .i64 0,.int .i64 0,.string ⟨#[]⟩] 96)));have HN1:=aA (HNa.out.under (bA hU1 (.cells #[.int .i64 (0),.int .i64 0,.int .i64 0,.string ⟨#[]⟩] 96)));have HF1:=aA (HFt.out.under (bA hU1 (.cells #[.int .i64 (0),.int .i64 0,.int .i64 0,.string ⟨#[]⟩] 96)));have HU1:=aA (HUa.out.trans (bA hU1 (.cells #[.int .i64 (0),.int .i64 0,.int .i64 0,.string ⟨#[]⟩] 96)));have HB1:=aA (zA w1 #[.int .i64 (0),.int .i64 0,.int .i64 0,.string ⟨#[]⟩] 96);have x0:=HX1.out.cell 0;have x1:(w1.alloc (.cells #[.int .i64 (0),.int .i64 0,.int .i64 0,.string ⟨#[]⟩] 96)).cell? ⟨w0.heap.size+1,1,none⟩=some (.int .i64 pp):=HX1.out.cell 1;have x2:(w1.alloc (.cells #[.int .i64 (0),.int .i64 0,.int .i64 0,.string ⟨#[]⟩] 96)).cell? ⟨w0.heap.size+1,2,none⟩=some (.string s):=HX1.out.cell 2;have xl:=HX1.out.lt;have xl2:w0.heap.size+1 < w1.heap.size+1:=by simpa using xl
  have f0:(w1.alloc (.cells #[.int .i64 (0),.int .i64 0,.int .i64 0,.string ⟨#[]⟩] 96)).cell? ⟨w0.heap.size+1+1,0,none⟩=some (.int .i64 0):=HF1.out.cell 0;have f1:(w1.alloc (.cells #[.int .i64 (0),.int .i64 0,.int .i64 0,.string ⟨#[]⟩] 96)).cell? ⟨w0.heap.size+1+1,1,none⟩=some (.int .i64 0):=HF1.out.cell 1;have fl:=HF1.out.lt;have fl2:w0.heap.size+1+1 < w1.heap.size+1:=by simpa using fl
  have ff0:=HF1.out.free 0;have ff1:=HF1.out.free 1;clear hU1 HX HNa HFt HUa HF;go_wp2_with fail;generalize w1.alloc (.cells #[.int .i64 0,.int .i64 0,.int .i64 0,.string ⟨#[]⟩] 96)=wN at *;clear fl2 xl2;refine(HNm.out _).mono ?_;rintro e w2 ⟨rfl,rfl⟩
 . go_wp2_with fail;go_region_held3 (λw'=>w'.cell? ⟨w0.heap.size+1,1,none⟩=some (.int .i64 pp))
     (first
       | exact x1
       | go_keep)
     (fail)
   rename_i hHeld;clear hHeld;go_wp2;have hlow:w0.heap.size<=w0.heap.size+1+1:=by omega
   have hFE:=(HF1.out.set 0 (.int .i64 (71))).set 1 (.int .i64 pp);have hUE:=fA (nA (nA HU1.out hlow 0 (.int .i64 (71))) hlow 1 (.int .i64 pp));have e0:((w2.setCell ⟨w0.heap.size+1+1,0,none⟩ (.int .i64 (71))).setCell ⟨w0.heap.size+1+1,1,none⟩ (.int .i64 pp)).cell? ⟨w0.heap.size+1+1,0,none⟩=some (.int .i64 (71)):=hFE.cell 0;have e1:((w2.setCell ⟨w0.heap.size+1+1,0,none⟩ (.int .i64 (71))).setCell ⟨w0.heap.size+1+1,1,none⟩ (.int .i64 pp)).cell? ⟨w0.heap.size+1+1,1,none⟩=some (.int .i64 pp):=hFE.cell 1;generalize (w2.setCell ⟨w0.heap.size+1+1,0,none⟩ (.int .i64 (71))).setCell ⟨w0.heap.size+1+1,1,none⟩ (.int .i64 pp)=wE at *;refine bodyPost_ret (v:=.tuple #[.slice none 0 0,.agg #[.int .i64 (71),.int .i64 pp]]) ((kC rfl _ _ _).trans ?_) rfl ⟨hUE,rfl⟩;simp[go_sem,e0,e1]
 . go_wp2_with fail;refine(HKw.out _).mono ?_;rintro e w3 ⟨rfl,hU3⟩;have HX1:=aA (HX1.out.under hU3);have HN1:=aA (HN1.out.under hU3);have HF1:=aA (HF1.out.under hU3);have HU1:=aA (HU1.out.trans hU3);have x0:=HX1.out.cell 0;have x1:w3.cell? ⟨w0.heap.size+1,1,none⟩=some (.int .i64 pp):=HX1.out.cell 1;have x2:w3.cell? ⟨w0.heap.size+1,2,none⟩=some (.string s):=HX1.out.cell 2;have xl:=HX1.out.lt;have f0:w3.cell? ⟨w0.heap.size+1+1,0,none⟩=some (.int .i64 0):=HF1.out.cell 0;have f1:w3.cell? ⟨w0.heap.size+1+1,1,none⟩=some (.int .i64 0):=HF1.out.cell 1;have fl:=HF1.out.lt;have ff0:=HF1.out.free 0;have ff1:=HF1.out.free 1;clear hU3;go_wp2_with fail;go_region_held3 (λw'=>w'.cell? ⟨w0.heap.size+1,1,none⟩=some (.int .i64 pp))
     (first
       | exact x1
       | go_keep)
     (fail)
   rename_i hHeld;clear hHeld;go_wp2;have hlow:w0.heap.size<=w0.heap.size+1+1:=by omega
   have hFE:=(HF1.out.set 0 (.int .i64 (71))).set 1 (.int .i64 pp);have hUE:=fA (nA (nA HU1.out hlow 0 (.int .i64 (71))) hlow 1 (.int .i64 pp));have e0:((w3.setCell ⟨w0.heap.size+1+1,0,none⟩ (.int .i64 (71))).setCell ⟨w0.heap.size+1+1,1,none⟩ (.int .i64 pp)).cell? ⟨w0.heap.size+1+1,0,none⟩=some (.int .i64 (71)):=hFE.cell 0;have e1:((w3.setCell ⟨w0.heap.size+1+1,0,none⟩ (.int .i64 (71))).setCell ⟨w0.heap.size+1+1,1,none⟩ (.int .i64 pp)).cell? ⟨w0.heap.size+1+1,1,none⟩=some (.int .i64 pp):=hFE.cell 1;generalize (w3.setCell ⟨w0.heap.size+1+1,0,none⟩ (.int .i64 (71))).setCell ⟨w0.heap.size+1+1,1,none⟩ (.int .i64 pp)=wE at *;refine bodyPost_ret (v:=.tuple #[.slice none 0 0,.agg #[.int .i64 (71),.int .i64 pp]]) ((kC rfl _ _ _).trans ?_) rfl ⟨hUE,rfl⟩;simp[go_sem,e0,e1]
end
theorem oJA{st:List ByteArray}{s:ByteArray}{k j:Nat}(hj:st.length=j+k+1)(hjl:j < st.length)(h:zJ st s=((st.reverse.drop k).findIdx? λx=>x.toList==s.toList).map (· + k)) :
 zJ st s=if(st[j].toList==s.toList) then some k else((st.reverse.drop (k+1)).findIdx? λx=>x.toList==s.toList).map (· + (k+1)):=by
 have hk:k < st.reverse.length:=by rw[List.length_reverse];omega
 rw[h,Qi hk,List.findIdx?_cons];have e:st.reverse[k]=st[j]:=by
  rw[List.getElem_reverse];congr 1
  omega
 rw[e]
 cases(st[j].toList==s.toList)
 . simp only[Qs,if_false]
   cases(st.reverse.drop (k+1)).findIdx? λx=>x.toList==s.toList with
   | none=>rfl
   | some i=>simp only[Option.map_some];congr 1;omega
 . simp
section
variable {w0 : World}
theorem gLA(x:Sx)(cs st:List ByteArray){p1:Option Addr}{d1:Nat}{dv bv:Value}(hl:qM x.word=none)(hk:nH x.word=true)(hcs:TextsV w0 (.slice p1 cs.length d1) cs)(hcn:cs.length<=1000000)(hst:TextsV w0 bv st)(hsn:st.length<=1000000) :
 Calls prog 67 #[.agg #[.slice p1 cs.length d1,dv],sxV x,bv] w0 (lEA w0 (gG cs x.pos x.word st)):=by
 have hW:gG cs x.pos x.word st=(match zJ st x.word with|some i=>if 99 < i then .error (2,x.pos) else .ok [⟨0,(i:Int),0,⟨#[]⟩⟩]|none=>if jK cs x.word then .ok [⟨1,0,0,x.word⟩] else .error (80,x.pos)):=by
  simp only[gG,hl,hk,if_true];rfl
 have HF:=aA (λw=>oV (w0:=w) x.word);have hlu:rU x.word=(0,false):=by rw[gY,hl];rfl
 rw[hlu]at HF;have HNm:=aA (λw=>lJ (w0:=w) x.word);have HKw:=aA (λw=>xN (w0:=w) x.word);obtain⟨cv,hcv⟩:∃ z,z=Value.slice p1 cs.length d1:=⟨_,rfl⟩;rw[<- hcv]at hcs ⊢;have HCv:=aA hcv;clear hcv;have HHs:=aA (λw (hU:Under w0 w)=>hJA (w0:=w) cs x.word (v:=cv) (by simp only[maxLen];omega) (hcs.under hU));have hnk:fD x.word=true/\kwW x.word=false:=by
  unfold nH at hk
  simpa using hk
 rw[hnk.1]at HNm;rw[hnk.2]at HKw;have HW:=aA hW;have he:hasB cs x.word=jK cs x.word:=rfl;have HE:=aA he;obtain⟨ps,cb,rfl,_,_,hrs⟩:=hst;have HRs:=aA hrs;generalize gG cs x.pos x.word st=R at *;clear hW hl hlu hk hnk hcs he hrs;have hs0:(0:Int)<=(st.length:Int):=by omega
 have hs1:(st.length:Int)<=1000000:=by omega
 obtain⟨mm,pp,s⟩:=x;simp only at *;unfold sxV;simp only;have HX:=aA (show BoxAt (((w0.alloc (.cells #[cv,dv] 91)).alloc (.cells #[.int .i64 mm,.int .i64 pp,.string s] 29)).alloc (.cells #[.int .i64 0,.int .i64 0] 110)) (w0.heap.size+1) 29 #[.int .i64 mm,.int .i64 pp,.string s] from by
   have:=zA (w0.alloc (.cells #[cv,dv] 91)) #[.int .i64 mm,.int .i64 pp,.string s] 29;rw[World.size_alloc]at this;exact this.alloc _)
 have HNa:=aA (show BoxAt (((w0.alloc (.cells #[cv,dv] 91)).alloc (.cells #[.int .i64 mm,.int .i64 pp,.string s] 29)).alloc (.cells #[.int .i64 0,.int .i64 0] 110)) w0.heap.size 91 #[cv,dv] from((zA w0 _ _).alloc _).alloc _);have HFt:=aA (show BoxAt (((w0.alloc (.cells #[cv,dv] 91)).alloc (.cells #[.int .i64 mm,.int .i64 pp,.string s] 29)).alloc (.cells #[.int .i64 0,.int .i64 0] 110)) (w0.heap.size+1+1) 110 #[.int .i64 0,.int .i64 0] from by
   have:=zA ((w0.alloc (.cells #[cv,dv] 91)).alloc (.cells #[.int .i64 mm,.int .i64 pp,.string s] 29)) #[.int .i64 0,.int .i64 0] 110;rw[World.size_alloc,World.size_alloc]at this;exact this)
 have HUa:=aA (show Under w0 (((w0.alloc (.cells #[cv,dv] 91)).alloc (.cells #[.int .i64 mm,.int .i64 pp,.string s] 29)).alloc (.cells #[.int .i64 0,.int .i64 0] 110)) from bA (bA (bA (Qu _) _) _) _);go_enter func67,ntmps67;go_wp2_with fail;generalize ((w0.alloc (.cells #[cv,dv] 91)).alloc (.cells #[.int .i64 mm,.int .i64 pp,.string s] 29)).alloc (.cells #[.int .i64 0,.int .i64 0] 110)=wA at *;refine(HF.out _).mono ?_;rintro e w1 ⟨rfl,hU1⟩;have HX1:=aA (HX.out.under (bA hU1 (.cells #[.int .i64 (0),.int .i64 0,.int .i64 0,.string ⟨#[]⟩] 96)));have HN1:=aA (HNa.out.under (bA hU1 (.cells #[.int .i64 (0),.int .i64 0,.int .i64 0,.string ⟨#[]⟩] 96)));have HF1:=aA (HFt.out.under (bA hU1 (.cells #[.int .i64 (0),.int .i64 0,.int .i64 0,.string ⟨#[]⟩] 96)));have HU1:=aA (HUa.out.trans (bA hU1 (.cells #[.int .i64 (0),.int .i64 0,.int .i64 0,.string ⟨#[]⟩] 96)));have HB1:=aA (zA w1 #[.int .i64 (0),.int .i64 0,.int .i64 0,.string ⟨#[]⟩] 96);have x0:=HX1.out.cell 0;have x1:(w1.alloc (.cells #[.int .i64 (0),.int .i64 0,.int .i64 0,.string ⟨#[]⟩] 96)).cell? ⟨w0.heap.size+1,1,none⟩=some (.int .i64 pp):=HX1.out.cell 1;have x2:(w1.alloc (.cells #[.int .i64 (0),.int .i64 0,.int .i64 0,.string ⟨#[]⟩] 96)).cell? ⟨w0.heap.size+1,2,none⟩=some (.string s):=HX1.out.cell 2;have xl:=HX1.out.lt;have xl2:w0.heap.size+1 < w1.heap.size+1:=by simpa using xl
 have f0:(w1.alloc (.cells #[.int .i64 (0),.int .i64 0,.int .i64 0,.string ⟨#[]⟩] 96)).cell? ⟨w0.heap.size+1+1,0,none⟩=some (.int .i64 0):=HF1.out.cell 0;have f1:(w1.alloc (.cells #[.int .i64 (0),.int .i64 0,.int .i64 0,.string ⟨#[]⟩] 96)).cell? ⟨w0.heap.size+1+1,1,none⟩=some (.int .i64 0):=HF1.out.cell 1;have fl:=HF1.out.lt;have fl2:w0.heap.size+1+1 < w1.heap.size+1:=by simpa using fl
 have ff0:=HF1.out.free 0;have ff1:=HF1.out.free 1;clear hU1 HX HNa HFt HUa HF;go_wp2_with fail;generalize w1.alloc (.cells #[.int .i64 0,.int .i64 0,.int .i64 0,.string ⟨#[]⟩] 96)=wN at *;clear fl2 xl2;refine(HNm.out _).mono ?_;rintro e w2 ⟨rfl,rfl⟩;go_wp2_with fail;refine(HKw.out _).mono ?_;rintro e w3 ⟨rfl,hU3⟩;have HX1:=aA (HX1.out.under hU3);have HN1:=aA (HN1.out.under hU3);have HF1:=aA (HF1.out.under hU3);have HU1:=aA (HU1.out.trans hU3);have x0:=HX1.out.cell 0;have x1:w3.cell? ⟨w0.heap.size+1,1,none⟩=some (.int .i64 pp):=HX1.out.cell 1;have x2:w3.cell? ⟨w0.heap.size+1,2,none⟩=some (.string s):=HX1.out.cell 2;have xl:=HX1.out.lt;have f0:w3.cell? ⟨w0.heap.size+1+1,0,none⟩=some (.int .i64 0):=HF1.out.cell 0;have f1:w3.cell? ⟨w0.heap.size+1+1,1,none⟩=some (.int .i64 0):=HF1.out.cell 1;have fl:=HF1.out.lt;have ff0:=HF1.out.free 0;have ff1:=HF1.out.free 1;clear hU3;go_wp2;go_loopw [10] (λi wr=>tCB w3 st s i wr) (λi _=>st.length - (intOf i).toNat)
 case atStart=>exact⟨0,Nat.zero_le _,rfl,by simp[zJ],Qu _⟩
 case round =>
   obtain⟨k,hk,rfl,hfe,hU⟩:=hrel;have HX1:=aA (HX1.out.under hU);have HN1:=aA (HN1.out.under hU);have HF1:=aA (HF1.out.under hU);have HU0:=aA (HU1.out);have HU1:=aA (HU1.out.trans hU);clear x0 x1 x2 xl f0 f1 fl ff0 ff1;have x0:=HX1.out.cell 0;have x1:wr.cell? ⟨w0.heap.size+1,1,none⟩=some (.int .i64 pp):=HX1.out.cell 1;have x2:wr.cell? ⟨w0.heap.size+1,2,none⟩=some (.string s):=HX1.out.cell 2;have xl:=HX1.out.lt;have f0:wr.cell? ⟨w0.heap.size+1+1,0,none⟩=some (.int .i64 0):=HF1.out.cell 0;have f1:wr.cell? ⟨w0.heap.size+1+1,1,none⟩=some (.int .i64 0):=HF1.out.cell 1;have fl:=HF1.out.lt;have ff0:=HF1.out.free 0;have ff1:=HF1.out.free 1;have HUr:=aA hU;have HFe:=aA hfe;clear hU hfe;by_cases hlt:k < st.length
   . obtain⟨j,hj⟩:∃ j,st.length=j+k+1:=⟨st.length - 1 - k,by omega⟩;have hjl:j < st.length:=by omega
     obtain⟨b,off,rfl,hb,cc⟩:=kTA HRs.out hjl;have cc2:=(iA HU1.out hb (off+j)).trans cc;have hb2:=Qb hb HU1.out.size;have HSt:=aA (oJA hj hjl HFe.out);have a1:(j:Int)+(k:Int)+1 - 1=(j:Int)+(k:Int):=by omega
     have a2:(j:Int)+(k:Int) - (k:Int)=(j:Int):=by omega
     have a3:(j:Int)+(k:Int)<=1000000:=by omega
     have hw1:IntKind.i64.wrap ((j:Int)+(k:Int))=(j:Int)+(k:Int):=by simp[IntKind.wrap,IntKind.bits,IntKind.signed];omega
     have hw2:IntKind.i64.wrap (j:Int)=(j:Int):=by simp[IntKind.wrap,IntKind.bits,IntKind.signed];omega
     have hjk:(j:Int) < (j:Int)+(k:Int)+1:=by omega
     have HJ:=aA hj;have hj0:(0:Int)<=(j:Int):=by omega
     have hjn:(j:Int) < (st.length:Int):=by omega
     have hk0:(0:Int)<=(k:Int):=by omega
     have hkn:(k:Int) < (st.length:Int):=by omega
     clear cc hj
     cases hq:(st[j].toList==s.toList)
     . have HN:=aA (show zJ st s=((st.reverse.drop (k+1)).findIdx? λx=>x.toList==s.toList).map (· + (k+1)) by rw[HSt.out,hq];rfl);generalize st[j]=y at *;have ccd:=And.intro cc2 x2;go_wp2_with fail;rw[HJ.out];go_region_held3 (λw'=>w'.cell? ⟨b,off+j,none⟩=some (.string y)/\w'.cell? ⟨w0.heap.size+1,2,none⟩=some (.string s))
         (first
           | exact ccd
           | go_keep)
         (fail)
       rename_i hHeld;clear hHeld ccd cc2 hb2;rw[<- HJ.out];go_wp2;go_roundw
       case rel=>exact⟨k+1,by omega,by go_num,HN.out,HUr.out.trans (fA (Qu _))⟩
       case measure=>simp[intOf];omega
     . have HN:=aA (show zJ st s=some k by rw[HSt.out,hq];rfl);generalize st[j]=y at *;by_cases h9:(99:Int) < (k:Int)
       . have HR:RowKit.Hid (R = .error (2,pp)):=aA (by rw[HW.out,HN.out];simp only;rw[if_pos (by omega)]);have ccd:=And.intro cc2 x2;go_wp2_with fail;rw[HJ.out];go_region_held3 (λw'=>w'.cell? ⟨b,off+j,none⟩=some (.string y)/\w'.cell? ⟨w0.heap.size+1,2,none⟩=some (.string s))
           (first
             | exact ccd
             | go_keep)
           (fail)
         rename_i hHeld;clear hHeld ccd cc2 hb2;rw[<- HJ.out];have HX1:=aA (HX1.out.under (fA (Qu _)));have HN1:=aA (HN1.out.under (fA (Qu _)));have HF1:=aA (HF1.out.under (fA (Qu _)));have HU1:=aA (HU1.out.trans (fA (Qu _)));clear x0 x1 x2 xl f0 f1 fl ff0 ff1;generalize wr.drew=wr at *;have x0:=HX1.out.cell 0;have x1:wr.cell? ⟨w0.heap.size+1,1,none⟩=some (.int .i64 pp):=HX1.out.cell 1;have x2:wr.cell? ⟨w0.heap.size+1,2,none⟩=some (.string s):=HX1.out.cell 2;have xl:=HX1.out.lt;have f0:wr.cell? ⟨w0.heap.size+1+1,0,none⟩=some (.int .i64 0):=HF1.out.cell 0;have f1:wr.cell? ⟨w0.heap.size+1+1,1,none⟩=some (.int .i64 0):=HF1.out.cell 1;have fl:=HF1.out.lt;have ff0:=HF1.out.free 0;have ff1:=HF1.out.free 1;go_wp2_with fail;go_region_held3 (λw'=>w'.cell? ⟨w0.heap.size+1,1,none⟩=some (.int .i64 pp))
           (first
             | exact x1
             | go_keep)
           (fail)
         rename_i hHeld;clear hHeld;go_wp2;have hlow:w0.heap.size<=w0.heap.size+1+1:=by omega
         have hFE:=(HF1.out.set 0 (.int .i64 (2))).set 1 (.int .i64 pp);have hUE:=fA (nA (nA HU1.out hlow 0 (.int .i64 (2))) hlow 1 (.int .i64 pp));have e0:((wr.setCell ⟨w0.heap.size+1+1,0,none⟩ (.int .i64 (2))).setCell ⟨w0.heap.size+1+1,1,none⟩ (.int .i64 pp)).cell? ⟨w0.heap.size+1+1,0,none⟩=some (.int .i64 (2)):=hFE.cell 0;have e1:((wr.setCell ⟨w0.heap.size+1+1,0,none⟩ (.int .i64 (2))).setCell ⟨w0.heap.size+1+1,1,none⟩ (.int .i64 pp)).cell? ⟨w0.heap.size+1+1,1,none⟩=some (.int .i64 pp):=hFE.cell 1;generalize (wr.setCell ⟨w0.heap.size+1+1,0,none⟩ (.int .i64 (2))).setCell ⟨w0.heap.size+1+1,1,none⟩ (.int .i64 pp)=wE at *;refine bodyPost_ret (v:=.tuple #[.slice none 0 0,.agg #[.int .i64 (2),.int .i64 pp]]) ((kC rfl _ _ _).trans ?_) rfl ⟨hUE,(by rw[HR.out])⟩;simp[go_sem,e0,e1]
       . have HR:RowKit.Hid (R = .ok [⟨0,(k:Int),0,⟨#[]⟩⟩]):=aA (by rw[HW.out,HN.out];simp only;rw[if_neg (by omega)]);have ccd:=And.intro cc2 x2;go_wp2_with fail;rw[HJ.out];go_region_held3 (λw'=>w'.cell? ⟨b,off+j,none⟩=some (.string y)/\w'.cell? ⟨w0.heap.size+1,2,none⟩=some (.string s))
           (first
             | exact ccd
             | go_keep)
           (fail)
         rename_i hHeld;clear hHeld ccd cc2 hb2;rw[<- HJ.out];have HX1:=aA (HX1.out.under (fA (Qu _)));have HN1:=aA (HN1.out.under (fA (Qu _)));have HF1:=aA (HF1.out.under (fA (Qu _)));have HU1:=aA (HU1.out.trans (fA (Qu _)));clear x0 x1 x2 xl f0 f1 fl ff0 ff1;generalize wr.drew=wr at *;have x0:=HX1.out.cell 0;have x1:wr.cell? ⟨w0.heap.size+1,1,none⟩=some (.int .i64 pp):=HX1.out.cell 1;have x2:wr.cell? ⟨w0.heap.size+1,2,none⟩=some (.string s):=HX1.out.cell 2;have xl:=HX1.out.lt;have f0:wr.cell? ⟨w0.heap.size+1+1,0,none⟩=some (.int .i64 0):=HF1.out.cell 0;have f1:wr.cell? ⟨w0.heap.size+1+1,1,none⟩=some (.int .i64 0):=HF1.out.cell 1;have fl:=HF1.out.lt;have ff0:=HF1.out.free 0;have ff1:=HF1.out.free 1;go_wp2;have hlow:w0.heap.size<=w0.heap.size+1+1:=by omega
         obtain⟨wC,hC⟩:∃ z,z=((wr).setCell ⟨w0.heap.size+1+1,0,none⟩ (.int .i64 0)).setCell ⟨w0.heap.size+1+1,1,none⟩ (.int .i64 0):=⟨_,rfl⟩;have hsz:wC.heap.size=wr.heap.size:=by rw[hC,qJ,qJ];skip
         have hFE:BoxAt wC (w0.heap.size+1+1) 110 #[.int .i64 0,.int .i64 0]:=by rw[hC];exact(HF1.out.set 0 (.int .i64 0)).set 1 (.int .i64 0)
         have hUE:Under w0 wC:=by rw[hC];exact nA (nA HU1.out hlow 0 (.int .i64 0)) hlow 1 (.int .i64 0)
         rw[<- hC];clear hC;have hTE:=o7 96 wC ⟨0,(k:Int),0,⟨#[]⟩⟩;have hFE2:=hFE.alloc (.cells #[.int .i64 (0),.int .i64 ((k:Int)),.int .i64 (0),.string ⟨#[]⟩] 96);have hUE2:=bA hUE (.cells #[.int .i64 (0),.int .i64 ((k:Int)),.int .i64 (0),.string ⟨#[]⟩] 96);rw[hsz]at hTE;have e0:(wC.alloc (.cells #[.int .i64 (0),.int .i64 ((k:Int)),.int .i64 (0),.string ⟨#[]⟩] 96)).cell? ⟨w0.heap.size+1+1,0,none⟩=some (.int .i64 0):=hFE2.cell 0;have e1:(wC.alloc (.cells #[.int .i64 (0),.int .i64 ((k:Int)),.int .i64 (0),.string ⟨#[]⟩] 96)).cell? ⟨w0.heap.size+1+1,1,none⟩=some (.int .i64 0):=hFE2.cell 1;generalize wC.alloc (.cells #[.int .i64 (0),.int .i64 ((k:Int)),.int .i64 (0),.string ⟨#[]⟩] 96)=wE at *;refine bodyPost_ret (v:=.tuple #[.slice (some ⟨wr.heap.size,0,none⟩) 1 1,.agg #[.int .i64 0,.int .i64 0]]) ((kC rfl _ _ _).trans ?_) rfl ⟨hUE2,(by rw[HR.out];exact⟨_,rfl,hTE⟩)⟩;simp[go_sem,e0,e1]
   . obtain rfl:k=st.length:=by omega
     have HN:=aA (show zJ st s=none by rw[HFe.out,List.drop_eq_nil_of_le (by rw[List.length_reverse];exact Qd _)];rfl);have n0:wr.cell? ⟨w0.heap.size,0,none⟩=some cv:=HN1.out.cell 0;have nl:=HN1.out.lt;have HHc:=aA (HHs.out _ HU1.out)
     cases hc:jK cs s
     . have HR:RowKit.Hid (R = .error (80,pp)):=aA (by rw[HW.out,HN.out];simp only;rw[hc];rfl);rw[HE.out,hc]at HHc;go_wp2_with fail;refine HHc.out.mono ?_;rintro e w5 ⟨rfl,rfl⟩;go_wp2_with fail;go_region_held3 (λw'=>w'.cell? ⟨w0.heap.size+1,1,none⟩=some (.int .i64 pp))
         (first
           | exact x1
           | go_keep)
         (fail)
       rename_i hHeld;clear hHeld;go_wp2;have hlow:w0.heap.size<=w0.heap.size+1+1:=by omega
       have hFE:=(HF1.out.set 0 (.int .i64 (80))).set 1 (.int .i64 pp);have hUE:=fA (nA (nA HU1.out hlow 0 (.int .i64 (80))) hlow 1 (.int .i64 pp));have e0:((w5.setCell ⟨w0.heap.size+1+1,0,none⟩ (.int .i64 (80))).setCell ⟨w0.heap.size+1+1,1,none⟩ (.int .i64 pp)).cell? ⟨w0.heap.size+1+1,0,none⟩=some (.int .i64 (80)):=hFE.cell 0;have e1:((w5.setCell ⟨w0.heap.size+1+1,0,none⟩ (.int .i64 (80))).setCell ⟨w0.heap.size+1+1,1,none⟩ (.int .i64 pp)).cell? ⟨w0.heap.size+1+1,1,none⟩=some (.int .i64 pp):=hFE.cell 1;generalize (w5.setCell ⟨w0.heap.size+1+1,0,none⟩ (.int .i64 (80))).setCell ⟨w0.heap.size+1+1,1,none⟩ (.int .i64 pp)=wE at *;refine bodyPost_ret (v:=.tuple #[.slice none 0 0,.agg #[.int .i64 (80),.int .i64 pp]]) ((kC rfl _ _ _).trans ?_) rfl ⟨hUE,(by rw[HR.out])⟩;simp[go_sem,e0,e1]
     . have HR:RowKit.Hid (R = .ok [⟨1,0,0,s⟩]):=aA (by rw[HW.out,HN.out];simp only;rw[hc];rfl);rw[HE.out,hc]at HHc;go_wp2_with fail;refine HHc.out.mono ?_;rintro e w5 ⟨rfl,rfl⟩;go_wp2;have hlow:w0.heap.size<=w0.heap.size+1+1:=by omega
       obtain⟨wC,hC⟩:∃ z,z=((w5).setCell ⟨w0.heap.size+1+1,0,none⟩ (.int .i64 0)).setCell ⟨w0.heap.size+1+1,1,none⟩ (.int .i64 0):=⟨_,rfl⟩;have hsz:wC.heap.size=w5.heap.size:=by rw[hC,qJ,qJ];skip
       have hFE:BoxAt wC (w0.heap.size+1+1) 110 #[.int .i64 0,.int .i64 0]:=by rw[hC];exact(HF1.out.set 0 (.int .i64 0)).set 1 (.int .i64 0)
       have hUE:Under w0 wC:=by rw[hC];exact nA (nA HU1.out hlow 0 (.int .i64 0)) hlow 1 (.int .i64 0)
       rw[<- hC];clear hC;have hTE:=o7 96 wC ⟨1,0,0,s⟩;have hFE2:=hFE.alloc (.cells #[.int .i64 (1),.int .i64 (0),.int .i64 (0),.string s] 96);have hUE2:=bA hUE (.cells #[.int .i64 (1),.int .i64 (0),.int .i64 (0),.string s] 96);rw[hsz]at hTE;have e0:(wC.alloc (.cells #[.int .i64 (1),.int .i64 (0),.int .i64 (0),.string s] 96)).cell? ⟨w0.heap.size+1+1,0,none⟩=some (.int .i64 0):=hFE2.cell 0;have e1:(wC.alloc (.cells #[.int .i64 (1),.int .i64 (0),.int .i64 (0),.string s] 96)).cell? ⟨w0.heap.size+1+1,1,none⟩=some (.int .i64 0):=hFE2.cell 1;generalize wC.alloc (.cells #[.int .i64 (1),.int .i64 (0),.int .i64 (0),.string s] 96)=wE at *;refine bodyPost_ret (v:=.tuple #[.slice (some ⟨w5.heap.size,0,none⟩) 1 1,.agg #[.int .i64 0,.int .i64 0]]) ((kC rfl _ _ _).trans ?_) rfl ⟨hUE2,(by rw[HR.out];exact⟨_,rfl,hTE⟩)⟩;simp[go_sem,e0,e1]
theorem pWA(x:Sx)(cs st:List ByteArray){p1:Option Addr}{d1:Nat}{dv bv:Value}(hcs:TextsV w0 (.slice p1 cs.length d1) cs)(hcn:cs.length<=1000000)(hst:TextsV w0 bv st)(hsn:st.length<=1000000) :
 Calls prog 67 #[.agg #[.slice p1 cs.length d1,dv],sxV x,bv] w0 (lEA w0 (gG cs x.pos x.word st)):=by
 cases hl:qM x.word with
 | some k=>exact fSA x cs st hl
 | none =>
   cases hk:nH x.word with
   | false=>exact wPA x cs st hl hk
   | true=>exact gLA x cs st hl hk hcs hcn hst hsn
end
def jBA(c:UInt8):Nat:=if c=42 then 0 else if c=86 then 2 else 1
theorem vX(l:List UInt8)(c:UInt8):bP (l++[c])=bP l+jBA c:=by
 induction l with
 | nil=>simp[bP,jBA]
 | cons a l ih=>simp only[List.cons_append,bP,ih];omega
theorem aX(l:List UInt8)(c:UInt8):eY (l++[c])=(eY l||(c==42)):=by simp[eY]
def mMA(d:Nat)(c:UInt8):List UInt8:=if c=42 then List.replicate d 46 else if c=86 then [86,87] else [c]
theorem l7(d:Nat)(l:List UInt8)(c:UInt8):iN d (l++[c])=iN d l++mMA d c:=by
 induction l with
 | nil=>simp[iN,mMA]
 | cons a l ih=>simp[iN,ih]
theorem lLA(d:Nat):∀ l:List UInt8,(iN d l).length<=l.length * (d+2)
  | []=>by simp[iN]
  | c :: l => by
    have ih:=lLA d l;simp only[iN,Qc,Qk,Nat.add_mul];have:(if c=42 then List.replicate d 46 else if c=86 then [86,87] else [c]).length<=d+2:=by
     split
     . simp
     . split<;>simp
    omega
def rCB(s:ByteArray)(v b i:Value):Prop:=∃(k n:Nat) (t:Bool),k<=s.size/\i = .int .i64 (k:Int)/\v = .int .i64 (n:Int)/\b = .bool t/\n=bP (s.data.toList.take k)/\t=eY (s.data.toList.take k)/\n<=2 * k
def lCB(s:ByteArray)(d:Nat)(v i:Value):Prop:=∃(k:Nat) (A:ByteArray),k<=s.size/\i = .int .i64 (k:Int)/\v = .string A/\A.data.toList=iN d (s.data.toList.take k)
def aCB(pre:List UInt8)(d:Nat)(v i:Value):Prop:=∃(j:Nat) (A:ByteArray),j<=d/\i = .int .i64 (j:Int)/\v = .string A/\A.data.toList=pre++List.replicate j 46
section
variable {w0 : World}
theorem pPA(s:ByteArray):Calls prog 69 #[.string s] w0 λe w=>e = .returned (.string ⟨(pF s.data.toList).toArray⟩)/\w=w0:=by
 cases h:(s.toList==[46,118,46])
 . have h1:¬ s.data.toList=[46,118,46]:=by rw[ByteArray.toList_eq]at h;simpa using h
   have HO:=aA (show(⟨(pF s.data.toList).toArray⟩:ByteArray)=s by unfold pF;rw[if_neg h1]);clear h1;go_enter func69,ntmps69;go_wp2;go_ret;exact⟨by rw[HO.out];rfl,rfl⟩
 . have h1:s.data.toList=[46,118,46]:=by rw[ByteArray.toList_eq]at h;simpa using h
   have HO:=aA (show(⟨(pF s.data.toList).toArray⟩:ByteArray)=⟨#[118,58,46]⟩ by unfold pF;rw[if_pos h1]);clear h1;go_enter func69,ntmps69;go_wp2;go_ret;exact⟨by rw[HO.out];rfl,rfl⟩
theorem rPA(s:ByteArray)(k:Nat)(hk:k < s.size)(hs:s.size<=1000000):Calls prog 73 #[.string s,.int .i64 (k:Int)] w0 λe w=>e = .returned (.bool (s[k]==58))/\w=w0:=by
 have hk0:(0:Int)<=(k:Int):=by omega
 have hkn:(k:Int) < (s.size:Int):=by omega
 have HB:=aA (show(s[k]==58)=((s[k].toNat:Int)==58) by
   rw[Bool.eq_iff_iff];simp only[beq_iff_eq];constructor
   . intro e;rw[e];rfl
   . intro e;exact UInt8.toNat_inj.1 (by show s[k].toNat=58;omega))
 generalize (s[k]==58)=r at *;go_enter func73,ntmps73;go_wp2;go_ret;exact⟨by rw[HB.out];rfl,rfl⟩
end
theorem iY(c:UInt8)(n:Nat)(hn:n < 256):((c.toNat:Int)==(n:Int))=(c==UInt8.ofNat n):=by
 rw[Bool.eq_iff_iff];simp only[beq_iff_eq];constructor
 . intro e;apply UInt8.toNat_inj.1;simp;omega
 . intro e;rw[e];simp;omega
theorem wLA(s:ByteArray)(k:Nat)(hk:k < s.size):(s.extract k (k+1)).data.toList=[s[k]]:=by
 have hs:s.data.toList.length=s.size:=by rw[Array.length_toList];rfl
 rw[ByteArray.data_extract,Array.toList_extract,List.extract_eq_take_drop,Qi (by omega),Nat.add_sub_cancel_left];simp;rfl
section
variable {w0 : World}
theorem zLA(s:ByteArray)(n:Nat)(hs:s.size<=20)(hn:n<=100000) :
 Calls prog 68 #[.string s,.int .i64 (n:Int)] w0 λe w=>e = .returned (match zG s.data.toList n with|none=>.tuple #[.string ⟨#[]⟩,.bool false]|some l=>.tuple #[.string ⟨l.toArray⟩,.bool true])/\w=w0:=by
 have hsl:s.data.toList.length=s.size:=by rw[Array.length_toList];rfl
 have HSl:=aA hsl;have HR:RowKit.Hid (zG s.data.toList n=if n < bP s.data.toList∨(bP s.data.toList < n/\eY s.data.toList=false) then none else some (iN (n - bP s.data.toList) s.data.toList)):=aA rfl;generalize zG s.data.toList n=R at *;have hs0:(0:Int)<=(s.size:Int):=by omega
 have hs9:(s.size:Int)<=20:=by omega
 have hn0:(0:Int)<=(n:Int):=by omega
 have hn9:(n:Int)<=100000:=by omega
 clear hsl;go_enter func68,ntmps68;go_wp2
 go_loop [6,7,8] (λv b i=>rCB s v b i) (λ_ _ i=>s.size - (intOf i).toNat)
 case atStart=>exact⟨0,0,false,Nat.zero_le _,rfl,rfl,rfl,rfl,rfl,Qd _⟩
 case round =>
   obtain⟨k,m,t,hk,rfl,rfl,rfl,hm,ht,hmk⟩:=hrel;have HM:=aA hm;have HT:=aA ht;have hm0:(0:Int)<=(m:Int):=by omega
   have hm9:(m:Int)<=40:=by omega
   clear hm ht;by_cases hlt:k < s.size
   . have hc:s.data.toList[k]? = some s[k]:=by rw[Qa (by have:=HSl.out;omega)];rfl
     have htk:s.data.toList.take (k+1)=s.data.toList.take k++[s[k]]:=by
      obtain⟨h1,h2⟩:=Qo.1 hc;rw[Qj h1,h2]
     have HTk:=aA htk;have b42:=iY s[k] 42 (by omega);have b86:=iY s[k] 86 (by omega);clear hc htk
     cases h42:(s[k]==42)
     . have g42:¬ s[k]=42:=by simpa using h42
       have e42:(((s[k]).toNat:Int)==42)=false:=b42.trans h42
       cases h86:(s[k]==86)
       . have g86:¬ s[k]=86:=by simpa using h86
         have e86:(((s[k]).toNat:Int)==86)=false:=b86.trans h86;have HX:=aA (show jBA s[k]=1 by unfold jBA;rw[if_neg g42,if_neg g86]);have HY:=aA h42;clear g42 g86 h42 h86 b42 b86;go_wp2
         go_round
         case rel=>exact⟨k+1,m+1,t,by omega,by go_num,by go_num,rfl,by rw[HTk.out,vX,<- HM.out,HX.out],by rw[HTk.out,aX,<- HT.out,HY.out,Bool.or_false],by omega⟩
         case measure=>simp[intOf];omega
       . have g86:s[k]=86:=by simpa using h86
         have e86:(((s[k]).toNat:Int)==86)=true:=b86.trans h86;have HX:=aA (show jBA s[k]=2 by unfold jBA;rw[if_neg g42,if_pos g86]);have HY:=aA h42;clear g42 g86 h42 h86 b42 b86;go_wp2
         go_round
         case rel=>exact⟨k+1,m+2,t,by omega,by go_num,by go_num,rfl,by rw[HTk.out,vX,<- HM.out,HX.out],by rw[HTk.out,aX,<- HT.out,HY.out,Bool.or_false],by omega⟩
         case measure=>simp[intOf];omega
     . have g42:s[k]=42:=by simpa using h42
       have e42:(((s[k]).toNat:Int)==42)=true:=b42.trans h42;have HX:=aA (show jBA s[k]=0 by unfold jBA;rw[if_pos g42]);have HY:=aA h42;clear g42 h42 b42 b86;go_wp2
       go_round
       case rel=>exact⟨k+1,m,true,by omega,by go_num,rfl,rfl,by rw[HTk.out,vX,<- HM.out,HX.out,Nat.add_zero],by rw[HTk.out,aX,HY.out,Bool.or_true],by omega⟩
       case measure=>simp[intOf];omega
   . obtain rfl:k=s.size:=by omega
     have htl:s.data.toList.take s.size=s.data.toList:=by rw[<- HSl.out,List.take_length]
     rw[htl]at HM HT;rw[<- HM.out,<- HT.out]at HR;clear htl hk;by_cases hlo:n < m
     . obtain rfl:R=none:=by rw[HR.out,if_pos (.inl hlo)]
       have hlo':(n:Int) < (m:Int):=by omega
       go_wp2;go_ret2;exact⟨rfl,rfl⟩
     . by_cases hhi : m < n /\ t = false
       . obtain rfl:R=none:=by rw[HR.out,if_pos (.inr hhi)]
         obtain⟨h1,rfl⟩:=hhi;have hlo':¬(n:Int) < (m:Int):=by omega
         have hhi':(m:Int) < (n:Int):=by omega
         go_wp2;go_ret2;exact⟨rfl,rfl⟩
       . have hE:R=some (iN (n - m) s.data.toList):=by rw[HR.out,if_neg (by rintro(h|h);exact hlo h;exact hhi h)]
         have hlo':¬(n:Int) < (m:Int):=by omega
         have hd:((n:Int) - (m:Int))=((n - m:Nat):Int):=by omega
         have hcase:¬(m:Int) < (n:Int)∨((m:Int) < (n:Int)/\t=true):=by
          by_cases h:m < n
          . right
            refine⟨by omega,?_⟩
            cases t
            . exact absurd ⟨h,rfl⟩ hhi
            . rfl
          . left;omega
         clear hlo hhi HR;obtain⟨d,hdd⟩:∃ d,d=n - m:=⟨_,rfl⟩;rw[<- hdd]at hE hd;subst hE;have hd9:d<=100000:=by omega
         clear hdd;rcases hcase with hc|⟨hc,rfl⟩
         all_goals
          go_wp2
          go_loop [9,10] (λv i=>lCB s d v i) (λ_ i=>s.size - (intOf i).toNat)
          case atStart=>exact⟨0,⟨#[]⟩,Nat.zero_le _,rfl,rfl,rfl⟩
          case round =>
            obtain⟨k,A,hk,rfl,rfl,hA⟩:=hrel;have hAl:A.size<=20 * (d+2):=by
             have h1:=lLA d (s.data.toList.take k);rw[<- hA,List.length_take]at h1;have h2:A.data.toList.length=A.size:=by rw[Array.length_toList];rfl
             rw[h2]at h1;refine Ql h1 (Nat.mul_le_mul ?_ (Qd _));omega
            have HA:=aA hA;have hA1:¬ 9223372036854775807 < A.size+1:=by omega
            have hA2:¬ 9223372036854775807 < A.size+1+1:=by omega
            clear hA;by_cases hlt:k < s.size
            . have hcc:s.data.toList[k]? = some s[k]:=by rw[Qa (by have:=HSl.out;omega)];rfl
              have htk:s.data.toList.take (k+1)=s.data.toList.take k++[s[k]]:=by
               obtain⟨h1,h2⟩:=Qo.1 hcc;rw[Qj h1,h2]
              have HTk:=aA htk;have HEx:=aA (wLA s k hlt);have hxs:(s.extract k (k+1)).size=1:=by
               have h2:(s.extract k (k+1)).data.toList.length=(s.extract k (k+1)).size:=by rw[Array.length_toList];rfl
               rw[<- h2,HEx.out];rfl
              have hA3:¬ 9223372036854775807 < A.size+(s.extract k (k+1)).size:=by rw[hxs];omega
              have hA4:¬ 9223372036854775807 < A.size+(s.extract k (k+1)).size+1:=by rw[hxs];omega
              have b42:=iY s[k] 42 (by omega);have b86:=iY s[k] 86 (by omega);have hk0:(0:Int)<=(k:Int):=by omega
              have hkn:(k:Int) < (s.size:Int):=by omega
              have hkn1:(k:Int)+1<=(s.size:Int):=by omega
              have hsl:∀ w,(Instr.slice 9 (.string s) (some (.int .i64 (k:Int))) (some (.int .i64 ((k:Int)+1))) none).run prog w = .ok (.string (s.extract k (k+1))) w:=λw=>by
               have:=run_slice_string (P:=prog) w 9 s .i64 .i64 (k:Int) ((k:Int)+1) underlying9 (by omega) (by omega) (by omega);rw[show((k:Int)).toNat=k by omega,show((k:Int)+1).toNat=k+1 by omega]at this;exact this
              clear hcc htk hxs
              cases h42:(s[k]==42)
              . have g42:¬ s[k]=42:=by simpa using h42
                have e42:(((s[k]).toNat:Int)==42)=false:=b42.trans h42
                cases h86:(s[k]==86)
                . have g86:¬ s[k]=86:=by simpa using h86
                  have e86:(((s[k]).toNat:Int)==86)=false:=b86.trans h86;have HX:=aA (show mMA d s[k]=[s[k]] by unfold mMA;rw[if_neg g42,if_neg g86]);clear g42 g86 h42 h86 b42 b86;go_wp2
                  go_round
                  case rel=>exact⟨k+1,A++s.extract k (k+1),by omega,by go_num,rfl,by rw[HTk.out,l7,HX.out,<- HA.out,<- HEx.out];simp⟩
                  case measure=>simp[intOf];omega
                . have g86:s[k]=86:=by simpa using h86
                  have e86:(((s[k]).toNat:Int)==86)=true:=b86.trans h86;have HX:=aA (show mMA d s[k]=[s[k]]++[87] by unfold mMA;rw[if_neg g42,if_pos g86,g86];rfl);clear g42 g86 h42 h86 b42 b86;go_wp2
                  go_round
                  case rel=>exact⟨k+1,A++s.extract k (k+1)++⟨#[87]⟩,by omega,by go_num,rfl,by rw[HTk.out,l7,HX.out,<- HA.out,<- HEx.out];simp⟩
                  case measure=>simp[intOf];omega
              . have g42:s[k]=42:=by simpa using h42
                have e42:(((s[k]).toNat:Int)==42)=true:=b42.trans h42;have HX:=aA (show mMA d s[k]=List.replicate d 46 by unfold mMA;rw[if_pos g42]);clear g42 h42 b42 b86;go_wp2
                go_loop [9,11] (λv i=>aCB A.data.toList d v i) (λ_ i=>d - (intOf i).toNat)
                case atStart=>exact⟨0,A,Nat.zero_le _,rfl,rfl,by simp⟩
                case round =>
                  obtain⟨j,B,hj,rfl,rfl,hB⟩:=hrel;have hBl:B.size<=20 * (d+2)+d:=by
                   have h2:B.data.toList.length=B.size:=by rw[Array.length_toList];rfl
                   have h3:A.data.toList.length=A.size:=by rw[Array.length_toList];rfl
                   have:=congrArg List.length hB;rw[Qc,List.length_replicate,h2,h3]at this;omega
                  have HB:=aA hB;have hB1:¬ 9223372036854775807 < B.size+1:=by omega
                  clear hB;by_cases hjd:j < d
                  . have hjd':(j:Int) < (d:Int):=by omega
                    go_wp2
                    go_round
                    case rel=>exact⟨j+1,B++⟨#[46]⟩,by omega,by go_num,rfl,by rw[List.replicate_succ',<- List.append_assoc,<- HB.out];simp⟩
                    case measure=>simp[intOf];omega
                  . obtain rfl:j=d:=by omega
                    go_wp2
                    go_round
                    case rel=>exact⟨k+1,B,by omega,by go_num,rfl,by rw[HTk.out,l7,HX.out,<- HA.out,HB.out]⟩
                    case measure=>simp[intOf];omega
            . obtain rfl:k=s.size:=by omega
              have htl:s.data.toList.take s.size=s.data.toList:=by rw[<- HSl.out,List.take_length]
              rw[htl]at HA;have HAe:=aA (show A=⟨(iN d s.data.toList).toArray⟩ by rw[<- HA.out]);clear htl;go_wp2;go_ret2;exact⟨by rw[HAe.out];rfl,rfl⟩
end
noncomputable def lX:Code:=f52.body.getD .skip
noncomputable def kT:Code:=jA (jA (jA (jA (jA (jA (jA (jA (jA (jA (jA (jA (jA (jA (jA (jA lX)))))))))))))))
noncomputable def ugRound:Code:=nC (nC (jA (aB kT)))
noncomputable def ugLate:Code:=jA kT
def fE(na fb fo nb:Nat)(bv ov nv:Value)(ps:ByteArray)(q2:Option Addr)(n c2 k:Nat)(J:Nat->Value):Array Value :=
 #[J 0, J 1, bv, .pointer (some ⟨na, 0, none⟩), J 4, J 5, .slice none 0 0, .pointer (some ⟨fb, 0, none⟩), J 8, J 9, .slice q2 n c2, J 11, .pointer (some ⟨fo, 0, none⟩), J 13, .string ps, J 15, .pointer (some ⟨nb, 0, none⟩), ov, nv, .int .i64 (k : Int), J 20, J 21, J 22, J 23, J 24, J 25, J 26, J 27, J 28, J 29, J 30, J 31, J 32, J 33, J 34, J 35, J 36, J 37, J 38, J 39, J 40, J 41, J 42, J 43, J 44, J 45, J 46, J 47, J 48, J 49, J 50, J 51, J 52, J 53, J 54, J 55, J 56, J 57, J 58, J 59, J 60, J 61, J 62, J 63, J 64, J 65, J 66, J 67, J 68, J 69, J 70, J 71, J 72, J 73, J 74, J 75, J 76, J 77, J 78, J 79, J 80, J 81, J 82, J 83, J 84, J 85, J 86, J 87, J 88, J 89, J 90, J 91, J 92, J 93, J 94, J 95, J 96, J 97, J 98, J 99, J 100, J 101, J 102, J 103, J 104, J 105, J 106, J 107, J 108, J 109, J 110, J 111, J 112, J 113, J 114, J 115, J 116, J 117, J 118, J 119, J 120, J 121, J 122, J 123, J 124, J 125, J 126, J 127, J 128, J 129, J 130, J 131, J 132, J 133, J 134, J 135, J 136, J 137, J 138, J 139, J 140, J 141, J 142, J 143, J 144, J 145, J 146, J 147, J 148, J 149, J 150, J 151, J 152, J 153, J 154, J 155, J 156, J 157, J 158, J 159, J 160, J 161, J 162, J 163, J 164, J 165, J 166, J 167, J 168, J 169, J 170, J 171, J 172, J 173, J 174, J 175, J 176, J 177, J 178, J 179, J 180, J 181, J 182, J 183, J 184, J 185, J 186, J 187, J 188, J 189, J 190, J 191, J 192, J 193, J 194, J 195, J 196, J 197, J 198, J 199, J 200, J 201, J 202, J 203, J 204, J 205, J 206, J 207, J 208, J 209, J 210, J 211, J 212, J 213, J 214, J 215, J 216, J 217, J 218, J 219, J 220, J 221, J 222, J 223, J 224, J 225, J 226, J 227, J 228, J 229, J 230, J 231]
def nL(fb:Nat)(v:Value)(J:Nat->Value):Array Value:=#[J 0,J 1,J 2,J 3,J 4,J 5,v,.pointer (some ⟨fb,0,none⟩),J 8,J 9,J 10,J 11,J 12,J 13,J 14,J 15,J 16,J 17,J 18,J 19,J 20,J 21,J 22,J 23,J 24,J 25,J 26,J 27,J 28,J 29,J 30,J 31,J 32,J 33,J 34,J 35,J 36,J 37,J 38,J 39,J 40,J 41,J 42,J 43,J 44,J 45,J 46,J 47,J 48,J 49,J 50,J 51,J 52,J 53,J 54,J 55,J 56,J 57,J 58,J 59,J 60,J 61,J 62,J 63,J 64,J 65,J 66,J 67,J 68,J 69,J 70,J 71,J 72,J 73,J 74,J 75,J 76,J 77,J 78,J 79,J 80,J 81,J 82,J 83,J 84,J 85,J 86,J 87,J 88,J 89,J 90,J 91,J 92,J 93,J 94,J 95,J 96,J 97,J 98,J 99,J 100,J 101,J 102,J 103,J 104,J 105,J 106,J 107,J 108,J 109,J 110,J 111,J 112,J 113,J 114,J 115,J 116,J 117,J 118,J 119,J 120,J 121,J 122,J 123,J 124,J 125,J 126,J 127,J 128,J 129,J 130,J 131,J 132,J 133,J 134,J 135,J 136,J 137,J 138,J 139,J 140,J 141,J 142,J 143,J 144,J 145,J 146,J 147,J 148,J 149,J 150,J 151,J 152,J 153,J 154,J 155,J 156,J 157,J 158,J 159,J 160,J 161,J 162,J 163,J 164,J 165,J 166,J 167,J 168,J 169,J 170,J 171,J 172,J 173,J 174,J 175,J 176,J 177,J 178,J 179,J 180,J 181,J 182,J 183,J 184,J 185,J 186,J 187,J 188,J 189,J 190,J 191,J 192,J 193,J 194,J 195,J 196,J 197,J 198,J 199,J 200,J 201,J 202,J 203,J 204,J 205,J 206,J 207,J 208,J 209,J 210,J 211,J 212,J 213,J 214,J 215,J 216,J 217,J 218,J 219,J 220,J 221,J 222,J 223,J 224,J 225,J 226,J 227,J 228,J 229,J 230,J 231]
structure UgFix where
 (w0 wl:World) (na fb fo nb:Nat) (cv dv bv:Value) (kk nn:Int) (st cs ds:List ByteArray) (hd:ST) (ts:List ST) (parts:List UInt8) (pr:ByteArray) (q2:Option Addr) (c2:Nat) (R:Say)
structure UgS (F:UgFix) (k:Nat) (nms:List ByteArray) (x:Nd) (t:List Nd) (ov nv:Value) (w:World):Prop where
 ch:Ch (λb=>b=F.nb) F.wl w
 nd:BoxAt w F.nb 96 (sQ x)
 xk:x.k=F.kk
 out:w.ownsRow F.wl.heap.size 96 4 ov t.length (dC t)
 row:w.ownsRow F.wl.heap.size 9 1 nv nms.length (nms.map .string)
 say:F.R=goS F.cs F.ds (yC (F.parts.drop k)) (F.ts.drop k) x nms F.st t
 nlen:nms.length<=k
 tlen:t.length<=(rA (F.ts.take k)).length
def bNA(T:ST):Prop:=∀(w0:World) (q:Option Addr) (cap:Nat) (p1 p2:Option Addr) (d1 d2:Nat) (bv:Value) (st cs ds:List ByteArray),
 okS T->(qA T).length<=20000->(qA T).length<=cap->SxArg w0 q (qA T)->TextsV w0 (.slice p1 cs.length d1) cs->TextsV w0 (.slice p2 ds.length d2) ds->cs.length<=1000000->ds.length<=1000000->TextsV w0 bv st->st.length+(qA T).length<=50000 ->
 Calls prog 52 #[.agg #[.slice p1 cs.length d1,.slice p2 ds.length d2],.slice q (qA T).length cap,bv] w0 (lEA w0 (pG cs ds T st))
structure UgOk (F:UgFix):Prop where
 und:Under F.w0 F.wl
 names:BoxAt F.wl F.na 91 #[F.cv,F.dv]
 form:BoxAt F.wl F.fo 133 #[.int .i64 F.kk,.int .i64 F.nn,.string F.pr]
 fault:BoxAt F.wl F.fb 110 #[.int .i64 0,.int .i64 0]
 node:∃ cs,BoxAt F.wl F.nb 96 cs
 nlt:F.nb < F.wl.heap.size
 nlo:F.w0.heap.size<=F.nb
 flo:F.w0.heap.size<=F.fb
 arg:TsArg (λb=>b=F.nb) F.wl F.q2 (F.hd::F.ts)
 bound:TextsV F.w0 F.bv F.st
 ok:uI F.ts
 len:(rA F.ts).length<=20000
 stl:F.st.length+(rA F.ts).length<=50000
 csT:TextsV F.w0 F.cv F.cs
 dsT:TextsV F.w0 F.dv F.ds
 csl:F.cs.length<=1000000
 dsl:F.ds.length<=1000000
 plen:F.parts.length=F.ts.length
 num:110∈F.parts->F.kk=2∨F.kk=26
theorem bTA{F:UgFix}(k:Nat)(hk:k < F.ts.length):(rA (F.ts.take k)).length<=(rA (F.ts.take (k+1))).length:=by
 rw[Qj hk,pE,Qc];omega
theorem UgS.name{F:UgFix}{k:Nat}{nms:List ByteArray}{x:Nd}{t:List Nd}{ov nv v':Value}{w w':World}{s:ByteArray}(hF:UgOk F)(hk:k < F.ts.length)(h:UgS F k nms x t ov nv w)(hc:Ch (λi=>nv.ownBlock=some i) w w')
    (hown:w'.ownsRow F.wl.heap.size 9 1 v' (nms.length+1) (nms.map .string++[.string s])) (hs:F.R=goS F.cs F.ds (yC (F.parts.drop (k+1))) (F.ts.drop (k+1)) x (nms++[s]) F.st t):UgS F (k+1) (nms++[s]) x t ov v' w':=by
  have hlow:∀ i,nv.ownBlock=some i->F.wl.heap.size<=i:=λi hi=>(xB h.row hi).1
  refine⟨h.ch.trans hc (λi hi hd=>by have:=hlow i hd;omega),fH h.nd hc (λhd=>by have:=hlow _ hd;have:=hF.nlt;omega),h.xk,iE h.out hc (λg hg hd=>?_),by rw[Qc,List.map_append];exact hown,hs,by rw[Qc];have:=h.nlen;simp;omega,Ql h.tlen (bTA k hk)⟩;rcases own_ne h.row h.out (by decide) with e|e
  . rw[e]at hd;cases hd
  . exact e (hd.trans hg.symm)
theorem UgS.set{F:UgFix}{k j:Nat}{u:Value}{nms:List ByteArray}{x x':Nd}{t:List Nd}{ov nv:Value}{w w3:World}(hF:UgOk F)(hk:k < F.ts.length)(h:UgS F k nms x t ov nv w)(hU:Under w w3)(hx:(sQ x).setIfInBounds j u=sQ x')(hk':x'.k=x.k)
    (hs:F.R=goS F.cs F.ds (yC (F.parts.drop (k+1))) (F.ts.drop (k+1)) x' nms F.st t):UgS F (k+1) nms x' t ov nv (w3.setCell ⟨F.nb,j,none⟩ u):=by
  have hc:Ch (λi=>i=F.nb) w3 (w3.setCell ⟨F.nb,j,none⟩ u):=(Ch.refl (C:=λi=>i=F.nb) w3).set (g:=F.nb) (λ_=>rfl) j u;have hn3:=(h.nd.under hU).set j u;rw[hx]at hn3;have hn:=hF.nlt;refine⟨(h.ch.under hU).trans hc (λi _ e=>e),hn3,hk'.trans h.xk,iE (uA h.out hU) hc (λg hg e=>?_),iE (uA h.row hU) hc (λg hg e=>?_),hs,Ql h.nlen (Nat.le_succ _),Ql h.tlen (bTA k hk)⟩
  . have:=(xB h.out hg).1;omega
  . have:=(xB h.row hg).1;omega
def lT(F:UgFix)(k:Nat)(a':Act)(w':World):Prop :=
 ∃ nms x t ov nv J,a'=⟨fE F.na F.fb F.fo F.nb F.bv ov nv ⟨F.parts.toArray⟩ F.q2 (F.ts.length+1) F.c2 k J,[]⟩/\UgS F k nms x t ov nv w'
def cHA(F:UgFix)(ex:Exit)(a':Act)(w':World):Prop :=
 (ex = .exit 0/\lT F F.ts.length a' w') ∨
 (ex = .ret/\∃ c p,(∃ J,a'=⟨nL F.fb (.slice none 0 0) J,[]⟩)/\F.R = .error (c,p)/\Under F.w0 w'/\BoxAt w' F.fb 110 #[.int .i64 c,.int .i64 p])
theorem nYA{cs ds:List ByteArray}{c:UInt8}{ks:List UInt8}{y:ST}{ys:List ST}{x:Nd}{nms st:List ByteArray}{t:List Nd}(hc:c=118∨c=86∨c=87) :
 goS cs ds (yC (c::ks)) (y::ys) x nms st t=if nH y.last.word then goS cs ds (yC ks) ys x (nms++[y.last.word]) st t else .error (71,y.last.pos):=by
 have:yC (c::ks) = .nm::yC ks:=by rcases hc with rfl|rfl|rfl<;>simp[yC]
 rw[this,goS]
theorem qIA(F:UgFix)(hF:UgOk F){k:Nat}(hk:k < F.ts.length){nms:List ByteArray}{x:Nd}{t:List Nd}{ov nv:Value}{w:World}{c0:UInt8}(hc:F.parts[k]? = some c0)(hcc:c0=118∨c0=86∨c0=87)(h:UgS F k nms x t ov nv w)(J:Nat->Value) :
 ugRound.wp prog (Exit.then (lT F (k+1)) (cHA F)) ⟨fE F.na F.fb F.fo F.nb F.bv ov nv ⟨F.parts.toArray⟩ F.q2 (F.ts.length+1) F.c2 k J,[]⟩ w:=by
 have hc':(F.parts[k]'(by rw[hF.plen];exact hk))=c0:=by
  rw[Qa (by rw[hF.plen];exact hk)]at hc;exact Qt hc
 clear hc;obtain⟨i0,hi,hz0,hz1,hz2⟩:=info_parts Tryz.infoStrZ;obtain⟨b,off,hq2,hbl,hnC,hat⟩:=hF.arg (by simp);obtain⟨qi,ci,ckl,hci,hsxl,haw⟩:=hat (k+1) F.ts[k] (by rw[List.getElem?_cons_succ,Qa hk]);have hb:b < w.heap.size:=Qb hbl h.ch.size;have ck:=(mJ h.ch hbl hnC (off+(k+1))).trans ckl;have hsx:=sK hsxl h.ch haw;clear ckl hsxl;have hyl:(qA F.ts[k]).length<=20000:=Ql (oH (Qr hk)) hF.len;have hpk:k < F.parts.length:=by rw[hF.plen];exact hk
 have hps:k < (⟨F.parts.toArray⟩:ByteArray).size:=by simpa [ByteArray.size] using hpk
 have hpc:(⟨F.parts.toArray⟩:ByteArray)[k]'hps=F.parts[k]:=rfl;have hsay:=h.say;rw[Qi hk,Qi hpk]at hsay;have HLa:=aA (λw' (hU:Under w w')=>fI (w0:=w') F.ts[k] (q:=qi) (cap:=ci) (by omega) (hsx.under hU));have HBo:=aA (uS (w0:=w) F.ts[k] (q:=qi) (cap:=ci) (by omega) hsx);have HTk:=aA (show rA (F.ts.take (k+1))=rA (F.ts.take k)++qA F.ts[k] by rw[Qj hk,pE];simp[rA]);have HY:=aA (show F.ts[k]∈F.ts from Qr hk);have HSy:=aA hsay;have HSx:=aA hsx;have H:=aA h;have hn0:(F.ts.length:Int)<=20000:=by have:=mH F.ts;have:=hF.len;omega
 have hk0:(0:Int)<=(k:Int):=by omega
 have hkn:(k:Int) < (F.ts.length:Int):=by omega
 have HKn:=aA hk;have HFt:=aA (fH hF.fault h.ch (λe=>hF.node.elim λ_ hx=>mG hF.fault hx (by decide) e));clear hat hsx haw hsay h;generalize F.ts[k]=y at *;generalize F.parts[k]=c at *;obtain⟨ps,hps,hpc,HPs⟩:∃ ps:ByteArray,∃ hps:k < ps.size,ps[k]'hps=c/\RowKit.Hid (ps=(⟨F.parts.toArray⟩:ByteArray)):=⟨_,hps,hpc,aA rfl⟩;rw[<- HPs.out];have hpsn:=aA (show ps.size=F.ts.length by rw[HPs.out,<- hF.plen];simp[ByteArray.size]);have hkps:(k:Int) < (ps.size:Int):=by have:=hpsn.out;omega
 unfold ugRound kT lX;simp only[f52,Qf,aB,jA,nC];unfold fE;rw[hq2];subst hc';rw[nYA hcc]at HSy
 cases hnm:nH y.last.word
 . have HErr:RowKit.Hid (F.R = .error (71,y.last.pos)):=aA (by rw[HSy.out,hnm];rfl);rw[hnm]at HBo;rcases hcc with rfl|rfl|rfl
   . have hb:((ps[k]'hps).toNat:Int)=118:=by rw[hpc];rfl
     go_wp2_with fail;refine HBo.out.mono ?_;rintro e w1 ⟨rfl,hU1⟩;have HU1:=aA hU1;clear hU1;go_wp2_with fail;refine(HLa.out _ (HU1.out)).mono ?_;rintro e w9 ⟨rfl,hU9⟩;have HU9:=aA (Under.trans (HU1.out) hU9);have HF9:=aA (HFt.out.under HU9.out);have HW9:=aA ((dB hF.und H.out.ch (λb e=>by rw[e];exact hF.nlo)).trans HU9.out);have f0:w9.cell? ⟨F.fb,0,none⟩=some (.int .i64 0):=HF9.out.cell 0;have f1:w9.cell? ⟨F.fb,1,none⟩=some (.int .i64 0):=HF9.out.cell 1;have fl:=HF9.out.lt;have ff0:=HF9.out.free 0;have ff1:=HF9.out.free 1;unfold sxV;have HFd:=λ(w:World)=>(show(Instr.field 29 (.agg #[.int .i64 y.last.many,.int .i64 y.last.pos,.string y.last.word]) 1).run prog w = .ok (.int .i64 y.last.pos) w by kernel_rfl)
     clear hU9;go_wp2;refine .inr ⟨rfl,71,y.last.pos,⟨_,fB (F:=nL F.fb (.slice none 0 0)) (by rfl)⟩,HErr.out,nA (nA HW9.out hF.flo _ _) hF.flo _ _,?_⟩;exact(HF9.out.set 0 _).set 1 _
   . have hb:((ps[k]'hps).toNat:Int)=86:=by rw[hpc];rfl
     go_wp2_with fail;refine HBo.out.mono ?_;rintro e w1 ⟨rfl,hU1⟩;have HU1:=aA hU1;clear hU1;go_wp2_with fail;refine(HLa.out _ (HU1.out)).mono ?_;rintro e w9 ⟨rfl,hU9⟩;have HU9:=aA (Under.trans (HU1.out) hU9);have HF9:=aA (HFt.out.under HU9.out);have HW9:=aA ((dB hF.und H.out.ch (λb e=>by rw[e];exact hF.nlo)).trans HU9.out);have f0:w9.cell? ⟨F.fb,0,none⟩=some (.int .i64 0):=HF9.out.cell 0;have f1:w9.cell? ⟨F.fb,1,none⟩=some (.int .i64 0):=HF9.out.cell 1;have fl:=HF9.out.lt;have ff0:=HF9.out.free 0;have ff1:=HF9.out.free 1;unfold sxV;have HFd:=λ(w:World)=>(show(Instr.field 29 (.agg #[.int .i64 y.last.many,.int .i64 y.last.pos,.string y.last.word]) 1).run prog w = .ok (.int .i64 y.last.pos) w by kernel_rfl)
     clear hU9;go_wp2;refine .inr ⟨rfl,71,y.last.pos,⟨_,fB (F:=nL F.fb (.slice none 0 0)) (by rfl)⟩,HErr.out,nA (nA HW9.out hF.flo _ _) hF.flo _ _,?_⟩;exact(HF9.out.set 0 _).set 1 _
   . have hb:((ps[k]'hps).toNat:Int)=87:=by rw[hpc];rfl
     go_wp2_with fail;refine HBo.out.mono ?_;rintro e w1 ⟨rfl,hU1⟩;have HU1:=aA hU1;clear hU1;go_wp2_with fail;refine(HLa.out _ (HU1.out)).mono ?_;rintro e w9 ⟨rfl,hU9⟩;have HU9:=aA (Under.trans (HU1.out) hU9);have HF9:=aA (HFt.out.under HU9.out);have HW9:=aA ((dB hF.und H.out.ch (λb e=>by rw[e];exact hF.nlo)).trans HU9.out);have f0:w9.cell? ⟨F.fb,0,none⟩=some (.int .i64 0):=HF9.out.cell 0;have f1:w9.cell? ⟨F.fb,1,none⟩=some (.int .i64 0):=HF9.out.cell 1;have fl:=HF9.out.lt;have ff0:=HF9.out.free 0;have ff1:=HF9.out.free 1;unfold sxV;have HFd:=λ(w:World)=>(show(Instr.field 29 (.agg #[.int .i64 y.last.many,.int .i64 y.last.pos,.string y.last.word]) 1).run prog w = .ok (.int .i64 y.last.pos) w by kernel_rfl)
     clear hU9;go_wp2;refine .inr ⟨rfl,71,y.last.pos,⟨_,fB (F:=nL F.fb (.slice none 0 0)) (by rfl)⟩,HErr.out,nA (nA HW9.out hF.flo _ _) hF.flo _ _,?_⟩;exact(HF9.out.set 0 _).set 1 _
 . have HSay:RowKit.Hid (F.R=goS F.cs F.ds (yC (F.parts.drop (k+1))) (F.ts.drop (k+1)) x (nms++[y.last.word]) F.st t):=aA (by rw[HSy.out,hnm];rfl);rw[hnm]at HBo;rcases hcc with rfl|rfl|rfl
   . have hb:((ps[k]'hps).toNat:Int)=118:=by rw[hpc];rfl
     go_wp2_with fail;refine HBo.out.mono ?_;rintro e w1 ⟨rfl,hU1⟩;have HU1:=aA hU1;clear hU1;go_wp2_with fail;refine(HLa.out _ HU1.out).mono ?_;rintro e w9 ⟨rfl,hU9⟩;have HU3:=aA (Under.trans HU1.out hU9);unfold sxV;have HFd:=λ(w:World)=>(show(Instr.field 29 (.agg #[.int .i64 y.last.many,.int .i64 y.last.pos,.string y.last.word]) 2).run prog w = .ok (.string y.last.word) w by kernel_rfl)
     have hmx:nms.length+1<=maxLen:=by have:=H.out.nlen;simp only[maxLen];omega
     have hby:(nms.length+1) * 16<=140737488355328:=by have:=H.out.nlen;omega
     clear hU9;go_wp2_with (at_builtin;refine wpList_append_own_at _ rfl _ _ 80 rfl F.wl.heap.size 9 i0 _ 1 16 underlying80 hi hz0 hz1 hz2 rfl (by decide) _ _ _ rfl ((uA H.out.row HU3.out).alloc _) ⟨w9.heap.size,0,none⟩ 1 1 [.string y.last.word] rfl rfl ?c1 ?c2 hmx hby ?c5 ?_)
     case c1 =>
       intro j u hj
       match j,hj with
       | 0,hj=>cases hj;simp[Addr.add]
     case c2=>intro u hu;simp at hu;subst hu;rfl
     case c5=>have:=H.out.ch.size;have:=HU3.out.size;simp;omega
     intro v' w5 hown hgrow hnil hat;have HW:=aA hown;have HCh:=aA ((Ch.of_under (C:=λi=>nv.ownBlock=some i) (bA HU3.out (.cells #[.string y.last.word] 9))).grown hgrow (λg e _=>e));clear hown hgrow hnil hat;go_wp2;refine⟨nms++[y.last.word],x,t,ov,v',bB (F:=fE F.na F.fb F.fo F.nb F.bv ov v' ⟨F.parts.toArray⟩ F.q2 (F.ts.length+1) F.c2 (k+1)) (by rw[hq2,<- HPs.out];rfl) ?_⟩;exact UgS.name hF HKn.out H.out HCh.out HW.out HSay.out
   . have hb:((ps[k]'hps).toNat:Int)=86:=by rw[hpc];rfl
     go_wp2_with fail;refine HBo.out.mono ?_;rintro e w1 ⟨rfl,hU1⟩;have HU1:=aA hU1;clear hU1;go_wp2_with fail;refine(HLa.out _ HU1.out).mono ?_;rintro e w9 ⟨rfl,hU9⟩;have HU3:=aA (Under.trans HU1.out hU9);unfold sxV;have HFd:=λ(w:World)=>(show(Instr.field 29 (.agg #[.int .i64 y.last.many,.int .i64 y.last.pos,.string y.last.word]) 2).run prog w = .ok (.string y.last.word) w by kernel_rfl)
     have hmx:nms.length+1<=maxLen:=by have:=H.out.nlen;simp only[maxLen];omega
     have hby:(nms.length+1) * 16<=140737488355328:=by have:=H.out.nlen;omega
     clear hU9;go_wp2_with (at_builtin;refine wpList_append_own_at _ rfl _ _ 80 rfl F.wl.heap.size 9 i0 _ 1 16 underlying80 hi hz0 hz1 hz2 rfl (by decide) _ _ _ rfl ((uA H.out.row HU3.out).alloc _) ⟨w9.heap.size,0,none⟩ 1 1 [.string y.last.word] rfl rfl ?c1 ?c2 hmx hby ?c5 ?_)
     case c1 =>
       intro j u hj
       match j,hj with
       | 0,hj=>cases hj;simp[Addr.add]
     case c2=>intro u hu;simp at hu;subst hu;rfl
     case c5=>have:=H.out.ch.size;have:=HU3.out.size;simp;omega
     intro v' w5 hown hgrow hnil hat;have HW:=aA hown;have HCh:=aA ((Ch.of_under (C:=λi=>nv.ownBlock=some i) (bA HU3.out (.cells #[.string y.last.word] 9))).grown hgrow (λg e _=>e));clear hown hgrow hnil hat;go_wp2;refine⟨nms++[y.last.word],x,t,ov,v',bB (F:=fE F.na F.fb F.fo F.nb F.bv ov v' ⟨F.parts.toArray⟩ F.q2 (F.ts.length+1) F.c2 (k+1)) (by rw[hq2,<- HPs.out];rfl) ?_⟩;exact UgS.name hF HKn.out H.out HCh.out HW.out HSay.out
   . have hb:((ps[k]'hps).toNat:Int)=87:=by rw[hpc];rfl
     go_wp2_with fail;refine HBo.out.mono ?_;rintro e w1 ⟨rfl,hU1⟩;have HU1:=aA hU1;clear hU1;go_wp2_with fail;refine(HLa.out _ HU1.out).mono ?_;rintro e w9 ⟨rfl,hU9⟩;have HU3:=aA (Under.trans HU1.out hU9);unfold sxV;have HFd:=λ(w:World)=>(show(Instr.field 29 (.agg #[.int .i64 y.last.many,.int .i64 y.last.pos,.string y.last.word]) 2).run prog w = .ok (.string y.last.word) w by kernel_rfl)
     have hmx:nms.length+1<=maxLen:=by have:=H.out.nlen;simp only[maxLen];omega
     have hby:(nms.length+1) * 16<=140737488355328:=by have:=H.out.nlen;omega
     clear hU9;go_wp2_with (at_builtin;refine wpList_append_own_at _ rfl _ _ 80 rfl F.wl.heap.size 9 i0 _ 1 16 underlying80 hi hz0 hz1 hz2 rfl (by decide) _ _ _ rfl ((uA H.out.row HU3.out).alloc _) ⟨w9.heap.size,0,none⟩ 1 1 [.string y.last.word] rfl rfl ?c1 ?c2 hmx hby ?c5 ?_)
     case c1 =>
       intro j u hj
       match j,hj with
       | 0,hj=>cases hj;simp[Addr.add]
     case c2=>intro u hu;simp at hu;subst hu;rfl
     case c5=>have:=H.out.ch.size;have:=HU3.out.size;simp;omega
     intro v' w5 hown hgrow hnil hat;have HW:=aA hown;have HCh:=aA ((Ch.of_under (C:=λi=>nv.ownBlock=some i) (bA HU3.out (.cells #[.string y.last.word] 9))).grown hgrow (λg e _=>e));clear hown hgrow hnil hat;go_wp2;refine⟨nms++[y.last.word],x,t,ov,v',bB (F:=fE F.na F.fb F.fo F.nb F.bv ov v' ⟨F.parts.toArray⟩ F.q2 (F.ts.length+1) F.c2 (k+1)) (by rw[hq2,<- HPs.out];rfl) ?_⟩;exact UgS.name hF HKn.out H.out HCh.out HW.out HSay.out
theorem f6A{cs ds:List ByteArray}{ks:List UInt8}{y:ST}{ys:List ST}{x:Nd}{nms st:List ByteArray}{t:List Nd}(hk:x.k=2∨x.k=26) :
 goS cs ds (yC (110::ks)) (y::ys) x nms st t=if iQ y.last.word < 0∨(x.k=2/\(iQ y.last.word < 1∨9 < iQ y.last.word))∨(x.k=26/\6<=iQ y.last.word) then .error (71,y.last.pos) else goS cs ds (yC ks) ys ⟨x.k,iQ y.last.word,x.m,x.s⟩ nms st t:=by
 have:yC (110::ks) = .nu::yC ks:=by simp[yC]
 rw[this,goS];unfold iQ
 cases mX y.last.word with
 | none=>simp
 | some n =>
   simp only;unfold v2A;rcases hk with h|h
   . rw[h];by_cases h2:1<=n/\n<=9
     . rw[if_neg (show ¬(((n:Int) < 0)∨((2:Int)=2/\((n:Int) < 1∨9 < (n:Int)))∨((2:Int)=26/\6<=(n:Int))) by omega)];simp[h2]
     . rw[if_pos (show(((n:Int) < 0)∨((2:Int)=2/\((n:Int) < 1∨9 < (n:Int)))∨((2:Int)=26/\6<=(n:Int))) by omega)];simp;omega
   . rw[h];by_cases h2:n < 6
     . rw[if_neg (show ¬(((n:Int) < 0)∨((26:Int)=2/\((n:Int) < 1∨9 < (n:Int)))∨((26:Int)=26/\6<=(n:Int))) by omega)];simp[h2]
     . rw[if_pos (show(((n:Int) < 0)∨((26:Int)=2/\((n:Int) < 1∨9 < (n:Int)))∨((26:Int)=26/\6<=(n:Int))) by omega)];simp;omega
theorem kAB(F:UgFix)(hF:UgOk F){k:Nat}(hk:k < F.ts.length){nms:List ByteArray}{x:Nd}{t:List Nd}{ov nv:Value}{w:World}(hc:F.parts[k]? = some 110)(h:UgS F k nms x t ov nv w)(J:Nat->Value) :
 ugRound.wp prog (Exit.then (lT F (k+1)) (cHA F)) ⟨fE F.na F.fb F.fo F.nb F.bv ov nv ⟨F.parts.toArray⟩ F.q2 (F.ts.length+1) F.c2 k J,[]⟩ w:=by
 have hkk:=hF.num (List.mem_of_getElem? hc);have hc':(F.parts[k]'(by rw[hF.plen];exact hk))=110:=by
  rw[Qa (by rw[hF.plen];exact hk)]at hc;exact Qt hc
 clear hc;obtain⟨i0,hi,hz0,hz1,hz2⟩:=info_parts Tryz.infoStrZ;obtain⟨b,off,hq2,hbl,hnC,hat⟩:=hF.arg (by simp);obtain⟨qi,ci,ckl,hci,hsxl,haw⟩:=hat (k+1) F.ts[k] (by rw[List.getElem?_cons_succ,Qa hk]);have hb:b < w.heap.size:=Qb hbl h.ch.size;have ck:=(mJ h.ch hbl hnC (off+(k+1))).trans ckl;have hsx:=sK hsxl h.ch haw;clear ckl hsxl;have hyl:(qA F.ts[k]).length<=20000:=Ql (oH (Qr hk)) hF.len;have hpk:k < F.parts.length:=by rw[hF.plen];exact hk
 have hps:k < (⟨F.parts.toArray⟩:ByteArray).size:=by simpa [ByteArray.size] using hpk
 have hpc:(⟨F.parts.toArray⟩:ByteArray)[k]'hps=F.parts[k]:=rfl;have hsay:=h.say;rw[Qi hk,Qi hpk]at hsay;have HLa:=aA (λw' (hU:Under w w')=>fI (w0:=w') F.ts[k] (q:=qi) (cap:=ci) (by omega) (hsx.under hU));have HBo:=aA (uS (w0:=w) F.ts[k] (q:=qi) (cap:=ci) (by omega) hsx);have HTk:=aA (show rA (F.ts.take (k+1))=rA (F.ts.take k)++qA F.ts[k] by rw[Qj hk,pE];simp[rA]);have HY:=aA (show F.ts[k]∈F.ts from Qr hk);have HSy:=aA hsay;have HSx:=aA hsx;have H:=aA h;have hn0:(F.ts.length:Int)<=20000:=by have:=mH F.ts;have:=hF.len;omega
 have hk0:(0:Int)<=(k:Int):=by omega
 have hkn:(k:Int) < (F.ts.length:Int):=by omega
 have HKn:=aA hk;have HFt:=aA (fH hF.fault h.ch (λe=>hF.node.elim λ_ hx=>mG hF.fault hx (by decide) e));clear hat hsx haw hsay h;generalize F.ts[k]=y at *;generalize F.parts[k]=c at *;obtain⟨ps,hps,hpc,HPs⟩:∃ ps:ByteArray,∃ hps:k < ps.size,ps[k]'hps=c/\RowKit.Hid (ps=(⟨F.parts.toArray⟩:ByteArray)):=⟨_,hps,hpc,aA rfl⟩;rw[<- HPs.out];have hpsn:=aA (show ps.size=F.ts.length by rw[HPs.out,<- hF.plen];simp[ByteArray.size]);have hkps:(k:Int) < (ps.size:Int):=by have:=hpsn.out;omega
 unfold ugRound kT lX;simp only[f52,Qf,aB,jA,nC];unfold fE;rw[hq2];subst hc';rw[f6A (by rw[H.out.xk];exact hkk)]at HSy;rw[H.out.xk]at HSy;rcases hkk with h2|h2
 . have HK:=aA h2;have k2:(F.kk==2)=true:=by simp[h2]
   have k26:(F.kk==26)=false:=by simp[h2]
   clear h2;have hb:((ps[k]'hps).toNat:Int)=110:=by rw[hpc];rfl
   go_wp2_with fail;refine(HLa.out _ (Qu w)).mono ?_;rintro e w9 ⟨rfl,hU9⟩;have HU9:=aA (Under.trans (Qu w) hU9);unfold sxV;have HFd:=λ(w:World)=>(show(Instr.field 29 (.agg #[.int .i64 y.last.many,.int .i64 y.last.pos,.string y.last.word]) 2).run prog w = .ok (.string y.last.word) w by kernel_rfl)
   clear hU9;have HFo:=aA (fH hF.form H.out.ch (λe=>hF.node.elim λ_ hx=>mG hF.form hx (by decide) e));have o0:w9.cell? ⟨F.fo,0,none⟩=some (.int .i64 F.kk):=(HFo.out.under HU9.out).cell 0;have ol:=(HFo.out.under HU9.out).lt;have HNu:=aA (λw=>oLA (w0:=w) y.last.word);generalize iQ y.last.word=v at *;go_wp2_with fail;refine(HNu.out _).mono ?_;rintro e w8 ⟨rfl,rfl⟩;by_cases hv:v < 0∨(v < 1∨9 < v)
   . have HErr:RowKit.Hid (F.R = .error (71,y.last.pos)):=aA (by rw[HSy.out,if_pos (by rw[HK.out];omega)]);rcases hv with hv|hv|hv
     . go_wp2_with fail;refine(HLa.out _ (HU9.out)).mono ?_;rintro e w9 ⟨rfl,hU9⟩;have HU9:=aA (Under.trans (HU9.out) hU9);have HF9:=aA (HFt.out.under HU9.out);have HW9:=aA ((dB hF.und H.out.ch (λb e=>by rw[e];exact hF.nlo)).trans HU9.out);have f0:w9.cell? ⟨F.fb,0,none⟩=some (.int .i64 0):=HF9.out.cell 0;have f1:w9.cell? ⟨F.fb,1,none⟩=some (.int .i64 0):=HF9.out.cell 1;have fl:=HF9.out.lt;have ff0:=HF9.out.free 0;have ff1:=HF9.out.free 1;unfold sxV;have HFd:=λ(w:World)=>(show(Instr.field 29 (.agg #[.int .i64 y.last.many,.int .i64 y.last.pos,.string y.last.word]) 1).run prog w = .ok (.int .i64 y.last.pos) w by kernel_rfl)
       clear hU9;go_wp2;refine .inr ⟨rfl,71,y.last.pos,⟨_,fB (F:=nL F.fb (.slice none 0 0)) (by rfl)⟩,HErr.out,nA (nA HW9.out hF.flo _ _) hF.flo _ _,?_⟩;exact(HF9.out.set 0 _).set 1 _
     . by_cases hv0 : v < 0
       . go_wp2_with fail;refine(HLa.out _ (HU9.out)).mono ?_;rintro e w9 ⟨rfl,hU9⟩;have HU9:=aA (Under.trans (HU9.out) hU9);have HF9:=aA (HFt.out.under HU9.out);have HW9:=aA ((dB hF.und H.out.ch (λb e=>by rw[e];exact hF.nlo)).trans HU9.out);have f0:w9.cell? ⟨F.fb,0,none⟩=some (.int .i64 0):=HF9.out.cell 0;have f1:w9.cell? ⟨F.fb,1,none⟩=some (.int .i64 0):=HF9.out.cell 1;have fl:=HF9.out.lt;have ff0:=HF9.out.free 0;have ff1:=HF9.out.free 1;unfold sxV;have HFd:=λ(w:World)=>(show(Instr.field 29 (.agg #[.int .i64 y.last.many,.int .i64 y.last.pos,.string y.last.word]) 1).run prog w = .ok (.int .i64 y.last.pos) w by kernel_rfl)
         clear hU9;go_wp2;refine .inr ⟨rfl,71,y.last.pos,⟨_,fB (F:=nL F.fb (.slice none 0 0)) (by rfl)⟩,HErr.out,nA (nA HW9.out hF.flo _ _) hF.flo _ _,?_⟩;exact(HF9.out.set 0 _).set 1 _
       . go_wp2_with fail;refine(HLa.out _ (HU9.out)).mono ?_;rintro e w9 ⟨rfl,hU9⟩;have HU9:=aA (Under.trans (HU9.out) hU9);have HF9:=aA (HFt.out.under HU9.out);have HW9:=aA ((dB hF.und H.out.ch (λb e=>by rw[e];exact hF.nlo)).trans HU9.out);have f0:w9.cell? ⟨F.fb,0,none⟩=some (.int .i64 0):=HF9.out.cell 0;have f1:w9.cell? ⟨F.fb,1,none⟩=some (.int .i64 0):=HF9.out.cell 1;have fl:=HF9.out.lt;have ff0:=HF9.out.free 0;have ff1:=HF9.out.free 1;unfold sxV;have HFd:=λ(w:World)=>(show(Instr.field 29 (.agg #[.int .i64 y.last.many,.int .i64 y.last.pos,.string y.last.word]) 1).run prog w = .ok (.int .i64 y.last.pos) w by kernel_rfl)
         clear hU9;go_wp2;refine .inr ⟨rfl,71,y.last.pos,⟨_,fB (F:=nL F.fb (.slice none 0 0)) (by rfl)⟩,HErr.out,nA (nA HW9.out hF.flo _ _) hF.flo _ _,?_⟩;exact(HF9.out.set 0 _).set 1 _
     . have hv0:¬ v < 0:=by omega
       have hv1:¬ v < 1:=by omega
       go_wp2_with fail;refine(HLa.out _ (HU9.out)).mono ?_;rintro e w9 ⟨rfl,hU9⟩;have HU9:=aA (Under.trans (HU9.out) hU9);have HF9:=aA (HFt.out.under HU9.out);have HW9:=aA ((dB hF.und H.out.ch (λb e=>by rw[e];exact hF.nlo)).trans HU9.out);have f0:w9.cell? ⟨F.fb,0,none⟩=some (.int .i64 0):=HF9.out.cell 0;have f1:w9.cell? ⟨F.fb,1,none⟩=some (.int .i64 0):=HF9.out.cell 1;have fl:=HF9.out.lt;have ff0:=HF9.out.free 0;have ff1:=HF9.out.free 1;unfold sxV;have HFd:=λ(w:World)=>(show(Instr.field 29 (.agg #[.int .i64 y.last.many,.int .i64 y.last.pos,.string y.last.word]) 1).run prog w = .ok (.int .i64 y.last.pos) w by kernel_rfl)
       clear hU9;go_wp2;refine .inr ⟨rfl,71,y.last.pos,⟨_,fB (F:=nL F.fb (.slice none 0 0)) (by rfl)⟩,HErr.out,nA (nA HW9.out hF.flo _ _) hF.flo _ _,?_⟩;exact(HF9.out.set 0 _).set 1 _
   . have HSay:RowKit.Hid (F.R=goS F.cs F.ds (yC (F.parts.drop (k+1))) (F.ts.drop (k+1)) ⟨x.k,v,x.m,x.s⟩ nms F.st t):=aA (by rw[HSy.out,if_neg (by rw[HK.out];omega),H.out.xk]);have hv0:¬ v < 0:=by omega
     have hv1:¬ v < 1:=by omega
     have hv9:¬ 9 < v:=by omega
     clear hv;have HNd:=aA (H.out.nd.under HU9.out);have m1:w8.cell? ⟨F.nb,1,none⟩=some (.int .i64 x.n):=HNd.out.cell 1;have ml:=HNd.out.lt;have mf:=HNd.out.free 1;go_wp2;refine⟨nms,⟨x.k,v,x.m,x.s⟩,t,ov,nv,bB (F:=fE F.na F.fb F.fo F.nb F.bv ov nv ⟨F.parts.toArray⟩ F.q2 (F.ts.length+1) F.c2 (k+1)) (by rw[hq2,<- HPs.out];rfl) ?_⟩;exact UgS.set hF HKn.out H.out HU9.out rfl rfl HSay.out
 . have HK:=aA h2;have k2:(F.kk==2)=false:=by simp[h2]
   have k26:(F.kk==26)=true:=by simp[h2]
   clear h2;have hb:((ps[k]'hps).toNat:Int)=110:=by rw[hpc];rfl
   go_wp2_with fail;refine(HLa.out _ (Qu w)).mono ?_;rintro e w9 ⟨rfl,hU9⟩;have HU9:=aA (Under.trans (Qu w) hU9);unfold sxV;have HFd:=λ(w:World)=>(show(Instr.field 29 (.agg #[.int .i64 y.last.many,.int .i64 y.last.pos,.string y.last.word]) 2).run prog w = .ok (.string y.last.word) w by kernel_rfl)
   clear hU9;have HFo:=aA (fH hF.form H.out.ch (λe=>hF.node.elim λ_ hx=>mG hF.form hx (by decide) e));have o0:w9.cell? ⟨F.fo,0,none⟩=some (.int .i64 F.kk):=(HFo.out.under HU9.out).cell 0;have ol:=(HFo.out.under HU9.out).lt;have HNu:=aA (λw=>oLA (w0:=w) y.last.word);generalize iQ y.last.word=v at *;go_wp2_with fail;refine(HNu.out _).mono ?_;rintro e w8 ⟨rfl,rfl⟩;by_cases hv:v < 0∨6<=v
   . have HErr:RowKit.Hid (F.R = .error (71,y.last.pos)):=aA (by rw[HSy.out,if_pos (by rw[HK.out];omega)]);rcases hv with hv|hv
     . go_wp2_with fail;refine(HLa.out _ (HU9.out)).mono ?_;rintro e w9 ⟨rfl,hU9⟩;have HU9:=aA (Under.trans (HU9.out) hU9);have HF9:=aA (HFt.out.under HU9.out);have HW9:=aA ((dB hF.und H.out.ch (λb e=>by rw[e];exact hF.nlo)).trans HU9.out);have f0:w9.cell? ⟨F.fb,0,none⟩=some (.int .i64 0):=HF9.out.cell 0;have f1:w9.cell? ⟨F.fb,1,none⟩=some (.int .i64 0):=HF9.out.cell 1;have fl:=HF9.out.lt;have ff0:=HF9.out.free 0;have ff1:=HF9.out.free 1;unfold sxV;have HFd:=λ(w:World)=>(show(Instr.field 29 (.agg #[.int .i64 y.last.many,.int .i64 y.last.pos,.string y.last.word]) 1).run prog w = .ok (.int .i64 y.last.pos) w by kernel_rfl)
       clear hU9;go_wp2;refine .inr ⟨rfl,71,y.last.pos,⟨_,fB (F:=nL F.fb (.slice none 0 0)) (by rfl)⟩,HErr.out,nA (nA HW9.out hF.flo _ _) hF.flo _ _,?_⟩;exact(HF9.out.set 0 _).set 1 _
     . have hv0:¬ v < 0:=by omega
       go_wp2_with fail;refine(HLa.out _ (HU9.out)).mono ?_;rintro e w9 ⟨rfl,hU9⟩;have HU9:=aA (Under.trans (HU9.out) hU9);have HF9:=aA (HFt.out.under HU9.out);have HW9:=aA ((dB hF.und H.out.ch (λb e=>by rw[e];exact hF.nlo)).trans HU9.out);have f0:w9.cell? ⟨F.fb,0,none⟩=some (.int .i64 0):=HF9.out.cell 0;have f1:w9.cell? ⟨F.fb,1,none⟩=some (.int .i64 0):=HF9.out.cell 1;have fl:=HF9.out.lt;have ff0:=HF9.out.free 0;have ff1:=HF9.out.free 1;unfold sxV;have HFd:=λ(w:World)=>(show(Instr.field 29 (.agg #[.int .i64 y.last.many,.int .i64 y.last.pos,.string y.last.word]) 1).run prog w = .ok (.int .i64 y.last.pos) w by kernel_rfl)
       clear hU9;go_wp2;refine .inr ⟨rfl,71,y.last.pos,⟨_,fB (F:=nL F.fb (.slice none 0 0)) (by rfl)⟩,HErr.out,nA (nA HW9.out hF.flo _ _) hF.flo _ _,?_⟩;exact(HF9.out.set 0 _).set 1 _
   . have HSay:RowKit.Hid (F.R=goS F.cs F.ds (yC (F.parts.drop (k+1))) (F.ts.drop (k+1)) ⟨x.k,v,x.m,x.s⟩ nms F.st t):=aA (by rw[HSy.out,if_neg (by rw[HK.out];omega),H.out.xk]);have hv0:¬ v < 0:=by omega
     have hv6:¬ 6<=v:=by omega
     clear hv;have HNd:=aA (H.out.nd.under HU9.out);have m1:w8.cell? ⟨F.nb,1,none⟩=some (.int .i64 x.n):=HNd.out.cell 1;have ml:=HNd.out.lt;have mf:=HNd.out.free 1;go_wp2;refine⟨nms,⟨x.k,v,x.m,x.s⟩,t,ov,nv,bB (F:=fE F.na F.fb F.fo F.nb F.bv ov nv ⟨F.parts.toArray⟩ F.q2 (F.ts.length+1) F.c2 (k+1)) (by rw[hq2,<- HPs.out];rfl) ?_⟩;exact UgS.set hF HKn.out H.out HU9.out rfl rfl HSay.out
theorem t3A{cs ds:List ByteArray}{ks:List UInt8}{y:ST}{ys:List ST}{x:Nd}{nms st:List ByteArray}{t:List Nd} :
 goS cs ds (yC (100::ks)) (y::ys) x nms st t=if nH y.last.word then(if jK ds y.last.word then goS cs ds (yC ks) ys ⟨x.k,x.n,x.m,y.last.word⟩ nms st t else .error (80,y.last.pos)) else .error (71,y.last.pos):=by
 have:yC (100::ks) = .da::yC ks:=by simp[yC]
 rw[this,goS]
theorem p4A(F:UgFix)(hF:UgOk F){k:Nat}(hk:k < F.ts.length){nms:List ByteArray}{x:Nd}{t:List Nd}{ov nv:Value}{w:World}(hc:F.parts[k]? = some 100)(h:UgS F k nms x t ov nv w)(J:Nat->Value) :
 ugRound.wp prog (Exit.then (lT F (k+1)) (cHA F)) ⟨fE F.na F.fb F.fo F.nb F.bv ov nv ⟨F.parts.toArray⟩ F.q2 (F.ts.length+1) F.c2 k J,[]⟩ w:=by
 have hc':(F.parts[k]'(by rw[hF.plen];exact hk))=100:=by
  rw[Qa (by rw[hF.plen];exact hk)]at hc;exact Qt hc
 clear hc;obtain⟨i0,hi,hz0,hz1,hz2⟩:=info_parts Tryz.infoStrZ;obtain⟨b,off,hq2,hbl,hnC,hat⟩:=hF.arg (by simp);obtain⟨qi,ci,ckl,hci,hsxl,haw⟩:=hat (k+1) F.ts[k] (by rw[List.getElem?_cons_succ,Qa hk]);have hb:b < w.heap.size:=Qb hbl h.ch.size;have ck:=(mJ h.ch hbl hnC (off+(k+1))).trans ckl;have hsx:=sK hsxl h.ch haw;clear ckl hsxl;have hyl:(qA F.ts[k]).length<=20000:=Ql (oH (Qr hk)) hF.len;have hpk:k < F.parts.length:=by rw[hF.plen];exact hk
 have hps:k < (⟨F.parts.toArray⟩:ByteArray).size:=by simpa [ByteArray.size] using hpk
 have hpc:(⟨F.parts.toArray⟩:ByteArray)[k]'hps=F.parts[k]:=rfl;have hsay:=h.say;rw[Qi hk,Qi hpk]at hsay;have HLa:=aA (λw' (hU:Under w w')=>fI (w0:=w') F.ts[k] (q:=qi) (cap:=ci) (by omega) (hsx.under hU));have HBo:=aA (uS (w0:=w) F.ts[k] (q:=qi) (cap:=ci) (by omega) hsx);have HTk:=aA (show rA (F.ts.take (k+1))=rA (F.ts.take k)++qA F.ts[k] by rw[Qj hk,pE];simp[rA]);have HY:=aA (show F.ts[k]∈F.ts from Qr hk);have HSy:=aA hsay;have HSx:=aA hsx;have H:=aA h;have hn0:(F.ts.length:Int)<=20000:=by have:=mH F.ts;have:=hF.len;omega
 have hk0:(0:Int)<=(k:Int):=by omega
 have hkn:(k:Int) < (F.ts.length:Int):=by omega
 have HKn:=aA hk;have HFt:=aA (fH hF.fault h.ch (λe=>hF.node.elim λ_ hx=>mG hF.fault hx (by decide) e));clear hat hsx haw hsay h;generalize F.ts[k]=y at *;generalize F.parts[k]=c at *;obtain⟨ps,hps,hpc,HPs⟩:∃ ps:ByteArray,∃ hps:k < ps.size,ps[k]'hps=c/\RowKit.Hid (ps=(⟨F.parts.toArray⟩:ByteArray)):=⟨_,hps,hpc,aA rfl⟩;rw[<- HPs.out];have hpsn:=aA (show ps.size=F.ts.length by rw[HPs.out,<- hF.plen];simp[ByteArray.size]);have hkps:(k:Int) < (ps.size:Int):=by have:=hpsn.out;omega
 unfold ugRound kT lX;simp only[f52,Qf,aB,jA,nC];unfold fE;rw[hq2];subst hc';rw[t3A]at HSy
 cases hnm:nH y.last.word
 . have HErr:RowKit.Hid (F.R = .error (71,y.last.pos)):=aA (by rw[HSy.out,hnm];rfl);rw[hnm]at HBo;have hb:((ps[k]'hps).toNat:Int)=100:=by rw[hpc];rfl
   go_wp2_with fail;refine HBo.out.mono ?_;rintro e w1 ⟨rfl,hU1⟩;have HU1:=aA hU1;clear hU1;go_wp2_with fail;refine(HLa.out _ (HU1.out)).mono ?_;rintro e w9 ⟨rfl,hU9⟩;have HU9:=aA (Under.trans (HU1.out) hU9);have HF9:=aA (HFt.out.under HU9.out);have HW9:=aA ((dB hF.und H.out.ch (λb e=>by rw[e];exact hF.nlo)).trans HU9.out);have f0:w9.cell? ⟨F.fb,0,none⟩=some (.int .i64 0):=HF9.out.cell 0;have f1:w9.cell? ⟨F.fb,1,none⟩=some (.int .i64 0):=HF9.out.cell 1;have fl:=HF9.out.lt;have ff0:=HF9.out.free 0;have ff1:=HF9.out.free 1;unfold sxV;have HFd:=λ(w:World)=>(show(Instr.field 29 (.agg #[.int .i64 y.last.many,.int .i64 y.last.pos,.string y.last.word]) 1).run prog w = .ok (.int .i64 y.last.pos) w by kernel_rfl)
   clear hU9;go_wp2;refine .inr ⟨rfl,71,y.last.pos,⟨_,fB (F:=nL F.fb (.slice none 0 0)) (by rfl)⟩,HErr.out,nA (nA HW9.out hF.flo _ _) hF.flo _ _,?_⟩;exact(HF9.out.set 0 _).set 1 _
 . rw[hnm]at HBo
   cases hds:jK F.ds y.last.word
   . have HErr:RowKit.Hid (F.R = .error (80,y.last.pos)):=aA (by rw[HSy.out,hnm,hds];rfl);have hb:((ps[k]'hps).toNat:Int)=100:=by rw[hpc];rfl
     go_wp2_with fail;refine HBo.out.mono ?_;rintro e w1 ⟨rfl,hU1⟩;have HU1:=aA hU1;clear hU1;have HNa:=aA (fH hF.names H.out.ch (λe=>hF.node.elim λ_ hx=>mG hF.names hx (by decide) e));have n1:w1.cell? ⟨F.na,1,none⟩=some F.dv:=(HNa.out.under HU1.out).cell 1;have nl:=(HNa.out.under HU1.out).lt;have HW1:=aA ((dB hF.und H.out.ch (λb e=>by rw[e];exact hF.nlo)).trans HU1.out);have HHs:=aA (λw' (hU:Under F.w0 w')=>hJA (w0:=w') F.ds y.last.word (v:=F.dv) (by have:=hF.dsl;simp only[maxLen];omega) (hF.dsT.under hU));have hhe:hasB F.ds y.last.word=jK F.ds y.last.word:=rfl;rw[hhe,hds]at HHs;clear hhe;have HFd:=λ(w:World)=>(show(Instr.field 29 (.agg #[.int .i64 y.last.many,.int .i64 y.last.pos,.string y.last.word]) 2).run prog w = .ok (.string y.last.word) w by kernel_rfl)
     go_wp2_with fail;go_region_held3 (λw'=>w'.cell? ⟨F.na,1,none⟩=some F.dv)
       (first
         | exact n1
         | exact(iA hU9 nl _).trans n1
         | go_keep)
       (first
         | (go_at_call 54
            refine(HLa.out _ (HU1.out.trans (fA (Qu _)))).mono ?_;rintro e w9 ⟨rfl,hU9⟩;unfold sxV;have hU9:=Under.trans (fA (Qu w1)) hU9)
         | (go_at_call 72
            refine(HHs.out _ (HW1.out.trans hU9)).mono ?_;rintro e w8 ⟨rfl,rfl⟩))
     rename_i hHeld;have HU9:=aA (HU1.out.trans hU9);clear hHeld n1 nl HHs hU9;go_wp2_with fail;refine(HLa.out _ (HU9.out)).mono ?_;rintro e w9 ⟨rfl,hU9⟩;have HU9:=aA (Under.trans (HU9.out) hU9);have HF9:=aA (HFt.out.under HU9.out);have HW9:=aA ((dB hF.und H.out.ch (λb e=>by rw[e];exact hF.nlo)).trans HU9.out);have f0:w9.cell? ⟨F.fb,0,none⟩=some (.int .i64 0):=HF9.out.cell 0;have f1:w9.cell? ⟨F.fb,1,none⟩=some (.int .i64 0):=HF9.out.cell 1;have fl:=HF9.out.lt;have ff0:=HF9.out.free 0;have ff1:=HF9.out.free 1;unfold sxV;have HFd:=λ(w:World)=>(show(Instr.field 29 (.agg #[.int .i64 y.last.many,.int .i64 y.last.pos,.string y.last.word]) 1).run prog w = .ok (.int .i64 y.last.pos) w by kernel_rfl)
     clear hU9;go_wp2;refine .inr ⟨rfl,80,y.last.pos,⟨_,fB (F:=nL F.fb (.slice none 0 0)) (by rfl)⟩,HErr.out,nA (nA HW9.out hF.flo _ _) hF.flo _ _,?_⟩;exact(HF9.out.set 0 _).set 1 _
   . have HSay:RowKit.Hid (F.R=goS F.cs F.ds (yC (F.parts.drop (k+1))) (F.ts.drop (k+1)) ⟨x.k,x.n,x.m,y.last.word⟩ nms F.st t):=aA (by rw[HSy.out,hnm,hds];rfl);have hb:((ps[k]'hps).toNat:Int)=100:=by rw[hpc];rfl
     go_wp2_with fail;refine HBo.out.mono ?_;rintro e w1 ⟨rfl,hU1⟩;have HU1:=aA hU1;clear hU1;have HNa:=aA (fH hF.names H.out.ch (λe=>hF.node.elim λ_ hx=>mG hF.names hx (by decide) e));have n1:w1.cell? ⟨F.na,1,none⟩=some F.dv:=(HNa.out.under HU1.out).cell 1;have nl:=(HNa.out.under HU1.out).lt;have HW1:=aA ((dB hF.und H.out.ch (λb e=>by rw[e];exact hF.nlo)).trans HU1.out);have HHs:=aA (λw' (hU:Under F.w0 w')=>hJA (w0:=w') F.ds y.last.word (v:=F.dv) (by have:=hF.dsl;simp only[maxLen];omega) (hF.dsT.under hU));have hhe:hasB F.ds y.last.word=jK F.ds y.last.word:=rfl;rw[hhe,hds]at HHs;clear hhe;have HFd:=λ(w:World)=>(show(Instr.field 29 (.agg #[.int .i64 y.last.many,.int .i64 y.last.pos,.string y.last.word]) 2).run prog w = .ok (.string y.last.word) w by kernel_rfl)
     go_wp2_with fail;go_region_held3 (λw'=>w'.cell? ⟨F.na,1,none⟩=some F.dv)
       (first
         | exact n1
         | exact(iA hU9 nl _).trans n1
         | go_keep)
       (first
         | (go_at_call 54
            refine(HLa.out _ (HU1.out.trans (fA (Qu _)))).mono ?_;rintro e w9 ⟨rfl,hU9⟩;unfold sxV;have hU9:=Under.trans (fA (Qu w1)) hU9)
         | (go_at_call 72
            refine(HHs.out _ (HW1.out.trans hU9)).mono ?_;rintro e w8 ⟨rfl,rfl⟩))
     rename_i hHeld;have HU9:=aA (HU1.out.trans hU9);clear hHeld n1 nl HHs hU9;go_wp2_with fail;refine(HLa.out _ HU9.out).mono ?_;rintro e w7 ⟨rfl,hU7⟩;have HU9:=aA (Under.trans HU9.out hU7);unfold sxV;clear hU7;have HNd:=aA (H.out.nd.under HU9.out);have m1:w7.cell? ⟨F.nb,3,none⟩=some (.string x.s):=HNd.out.cell 3;have ml:=HNd.out.lt;have mf:=HNd.out.free 3;go_wp2;refine⟨nms,⟨x.k,x.n,x.m,y.last.word⟩,t,ov,nv,bB (F:=fE F.na F.fb F.fo F.nb F.bv ov nv ⟨F.parts.toArray⟩ F.q2 (F.ts.length+1) F.c2 (k+1)) (by rw[hq2,<- HPs.out];rfl) ?_⟩;exact UgS.set hF HKn.out H.out HU9.out rfl rfl HSay.out
end Go.Proofs.YtpkaiodmbicjiaaGreatDoor
