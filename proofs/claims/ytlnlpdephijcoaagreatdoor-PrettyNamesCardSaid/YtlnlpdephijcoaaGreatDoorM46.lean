/- Part 46 of what the proof rests on. -/
import Derived.Deep.RegionHeld3
import Derived.Test.YtlnlpdephijcoaaGreatDoorRows
import Derived.Conc.Holds
import Derived.KernelRfl
import Derived.Test.YtlnlpdephijcoaaGreatDoorM33
import Derived.Test.YtlnlpdephijcoaaGreatDoorM37
import Derived.Test.YtlnlpdephijcoaaGreatDoorM38
import Derived.Test.YtlnlpdephijcoaaGreatDoorM45
set_option linter.unusedSimpArgs false
set_option linter.unusedVariables false
set_option maxRecDepth 100000
set_option maxHeartbeats 4000000
namespace Go.Proofs.YtlnlpdephijcoaaGreatDoor
open Go.Lx Go.RowKit
def nLA(T:Tm):Prop:=okT T→∀(w0:World) (v:Value) (t:List Nd),t=flat T→t.length≤4000→TermV w0 v t →
 Calls Tryz.prog 24 #[v] w0 fun e w=>∃ n:Nat,n≤t.length∧e = .returned (.int .i64 (n:Int))∧Under w0 w
def qDB(w1:World)(l:List Tm)(nv i:Value)(wr:World):Prop:=∃ j n:Nat,j≤l.length∧n≤(qA l).length∧nv = .int .i64 (n:Int)∧i = .int .i64 (j:Int)∧Under w1 wr
theorem bWA(x:Nd)(l:List Tm)(ih:∀ a∈l,nLA a):nLA (.mk x l):=by
 intro hok w0 v t ht hn hv;have HOk:=Lib.hid hok;obtain⟨hx,hl,hls⟩:=hok;have hfl:t.length=(qA l).length+1:=by rw[ht,flat];simp
 have HFl:=Lib.hid hfl;have HPa:=Lib.hid (fun w (hU:Under w0 w)=>fGA (w0:=w) x l HOk.out ht (by omega) (TermV.mono _ _ _ _ hU hv));have HLs:=Lib.hid hls;have HIH:=Lib.hid ih;have HN0:=Lib.hid hn;have hB8:=gG hx;have hL0:(0:Int)≤(l.length:Int):=by omega
 have hL8:(l.length:Int)≤8:=by omega
 clear ht hx hl hls hv ih hB8 hfl hn;go_enter Tryz.func24,Tryz.ntmps24;go_wp2_with fail;refine(HPa.out _ (Under.refl _)).mono ?_;rintro e w3 ⟨vr,rfl,⟨p3,c3,vs,rfl,h31,_,h32,h33⟩,hU3⟩;have hlm:(l.map flat).length=l.length:=List.length_map ..;rw[hlm]at h31 ⊢;have HU3:=Lib.hid hU3;have HP3:=Lib.hid h32;have HZ3:=Lib.hid h33;clear hU3 h32 h33 hlm HPa;go_wp2;go_loopw [4,5] (fun nv i wr=>qDB w3 l nv i wr) (fun _ i _=>l.length - (intOf i).toNat)
 case atStart=>exact⟨0,0,Nat.zero_le _,Nat.zero_le _,rfl,rfl,Under.refl _⟩
 case round =>
   obtain⟨j,n,hj,hnm,rfl,rfl,hU⟩:=hrel;have HU:=Lib.hid hU;have HNm:=Lib.hid hnm;have hj0:(0:Int)≤(j:Int):=by omega
   have hn0:(0:Int)≤(n:Int):=by omega
   have hn4:(n:Int)≤4000:=by have:=HFl.out;have:=HN0.out;omega
   clear hU hnm;by_cases hjl:j < l.length
   · obtain ⟨tv, htv, hterm⟩ := HZ3.out.at (i := j) (x := flat l[j]) (by rw [List.getElem?_map, List.getElem?_eq_getElem hjl]; rfl); have hok := wR.1 HLs.out _ (List.getElem_mem hjl); have hfle : (flat l[j]).length ≤ (qA l).length := by
      have:=congrArg List.length (jF (l.take j) (l.drop j));rw[List.take_append_drop,List.drop_eq_getElem_cons hjl,List.length_append]at this;simp only[qA,List.length_append]at this;omega
     have HCq:=Lib.hid (fun w (hU:Under w3 w)=>HIH.out l[j] (List.getElem_mem hjl) hok w tv (flat l[j]) rfl (by have:=HFl.out;have:=HN0.out;omega) (TermV.mono _ _ _ _ hU hterm));have HF4:=Lib.hid hfle;obtain⟨pt,ct,rfl,_⟩:=hterm;obtain⟨bt,ot,rfl,hbt,hct⟩:=HP3.out (fun e=>by rw[e]at htv;simp at htv);have cc:=hct j _ htv;rw[← jA HU.out hbt]at cc;have hbt':=Nat.lt_of_lt_of_le hbt HU.out.size;clear hct htv hok hfle;generalize l[j]=T at *;have hjl':(j:Int) < (l.length:Int):=by omega
     go_wp2_with fail;refine(HCq.out _ HU.out).mono ?_;rintro e w4 ⟨n4,hn4,rfl,hU4⟩;have HU4:=Lib.hid (HU.out.trans hU4);have hn40:(0:Int)≤(n4:Int):=by omega
     have HN4:=Lib.hid (Nat.le_trans hn4 HF4.out);have hn41:(n4:Int)≤4000:=by have:=HN4.out;have:=HFl.out;have:=HN0.out;omega
     clear hU4 hn4;by_cases hyy:(n4:Int)≤(n:Int)
     · go_wp2
       all_goals
        go_roundw
        case rel=>exact⟨j+1,max n n4,by omega,by have:=HN4.out;have:=HNm.out;omega,by exact congrArg (Value.int .i64) (by omega),by go_num,HU4.out⟩
        case measure=>simp[intOf];omega
     · have hyy' : (n : Int) < (n4 : Int) := by omega
       go_wp2
       all_goals
        go_roundw
        case rel=>exact⟨j+1,max n n4,by omega,by have:=HN4.out;have:=HNm.out;omega,by exact congrArg (Value.int .i64) (by omega),by go_num,HU4.out⟩
        case measure=>simp[intOf];omega
   · obtain rfl : j = l.length := by omega
     go_wp2;go_ret;exact⟨n+1,by have:=HFl.out;have:=HNm.out;omega,rfl,HU3.out.trans HU.out⟩
theorem r4A(T:Tm):nLA T:=by
 induction T using Tm.rec (motive_2:=fun l=>∀ a∈l,nLA a) with
 | mk x l ih=>exact bWA x l ih
 | nil=>rename_i a ha;cases ha
 | cons a l iha ihl =>
   rename_i b hb;rcases List.mem_cons.1 hb with rfl | hb
   · exact iha
   · exact ihl b hb
end Go.Proofs.YtlnlpdephijcoaaGreatDoor
namespace Go.Proofs.YtlnlpdephijcoaaGreatDoor
open Go.Conc Go.Lx Go.RowKit
theorem zPA(t:List Nd)(av:List ByteArray)(hl:t.length≤120)(ha:av.length≤30)(hs:∀ x∈t,x.s.size≤100) :
 (∃ T,flat T=t∧okT T∧rC T≤60∧inT T 0∧(∀(w:World) (v va:Value),TermV w v t→TextsV w va av→Base w→Calls Tryz.prog 20 #[v,va] w fun x w'=>x=gLA (aG (aC vG [] t++av) T []) 0∧Under w w')) ∨
 ∃ c,c≠0∧(∀(w:World) (v va:Value),TermV w v t→TextsV w va av→Base w→Calls Tryz.prog 20 #[v,va] w fun x w'=>x=gLA [] c∧Under w w') ∧
  ∀(w:World) (v va:Value),TermV w v t→Calls Tryz.prog 25 #[v,va] w fun x w'=>x=gLA [] c∧Under w w':=by
 have hlm:t.length≤maxLen:=by simp only[maxLen];omega
 have hsm:∀ x∈t,x.s.size≤maxLen:=fun x hx=>by have:=hs x hx;simp only[maxLen];omega
 by_cases h:vB t=0
 · obtain ⟨T, rfl, hok, hd, hl4⟩ := iX h; by_cases hin : inT T 0
   · refine .inl ⟨T,rfl,hok,hd,hin,?_⟩;rintro w v va ⟨p,c,rfl,hcap,hp0,hp⟩ hva hB;exact vAA T av hok hd hl4 (by omega) (fun x hx=>by have:=hs x hx;omega) hcap hp0 hp hva hB.shapes hB.pow hin
   · refine .inr ⟨30,by decide,?_,fun w v va hv=>yMA T hok hd hl4 hv hin⟩;rintro w v va ⟨p,c,rfl,hcap,hp0,hp⟩ hva hB;exact dCA T hok hd hl4 hcap hsm hp hB.shapes hin
 · refine .inr ⟨vB t,h,?_,fun w v va hv=>xSA t hlm hv h⟩;rintro w v va ⟨p,c,rfl,hcap,hp0,hp⟩ hva hB;exact pDA t hcap hlm hsm hp hB.shapes h
section
variable {W : World}
theorem fUA(t:List Nd)(av:List ByteArray){v va:Value}(hv:TermV W v t)(ha:TextsV W va av)(hE:StrcAt W)(hB:Base W) :
 CallsG Tryz.prog 6 #[v,va] W (TrueU W):=by
 have HV:=Lib.hid (fun w (h:Under W w)=>TermV.mono _ _ _ _ h hv);have HA:=Lib.hid (fun w (h:Under W w)=>ha.under h);have HE:=Lib.hid (fun w (h:Under W w)=>hE.under h);have HB:=Lib.hid (fun w (h:Under W w)=>hB.under h);have HSh:=Lib.hid (fun w (h:Under W w)=>uIA (hB.under h));obtain⟨i0,hi,hz0,hz1,hz2⟩:=info_parts Tryz.infoStrZ;clear hE hB;obtain⟨pa,ca,rfl,hca,ha0,hra⟩:=ha;have HRa:=Lib.hid (And.intro hca (And.intro ha0 hra));clear hca ha0 hra;refine uM zD Tryz.func6 rfl ?_ TrueU.re;simp only[Tryz.ntmps6,List.size_toArray,List.length_cons,List.length_nil,Nat.reduceAdd,Nat.reduceSub,Array.replicate_succ,Array.replicate_zero,List.push_toArray,List.append_toArray,List.nil_append,List.cons_append];refine aF zD (nC zD fun τ d=>?_);go_wp2;have HW:=Lib.hid ((Under.refl W).re τ d);generalize re W τ d=wx at *;refine aF zD (nC zD fun τ d=>?_);have HW:=Lib.hid (HW.out.re τ d);generalize re _ τ d=wx at *;have HH:=Lib.hid (aJA t av (HV.out _ HW.out) (HA.out _ HW.out));go_wp2_with fail;refine HH.out.mono ?_;rintro e w1 ⟨hb,rfl,rfl,hlight⟩
 cases hb
 case true =>
   clear hlight;go_wp2_with fail;refine(HSh.out _ HW.out).mono ?_;rintro e w2 ⟨rfl,hU2⟩;have HW:=Lib.hid (HW.out.trans hU2);clear hU2;go_wp2;exact pG rfl rfl ⟨rfl,HW.out⟩
 obtain⟨h1,h2,h3,h4⟩:=hlight rfl;clear hlight;go_wp2_with fail;refine(HSh.out _ HW.out).mono ?_;rintro e w2 ⟨rfl,hU2⟩;have HW:=Lib.hid (HW.out.trans hU2);clear hU2;clear HH HSh;go_wp2;rcases zPA t av h1 h2 h3 with⟨T,rfl,hok,hd,hin,hP⟩ | ⟨c,hc,hP,hF⟩
 rotate_left
 · have HP := Lib.hid (fun w (h : Under W w) => hP w v _ (HV.out _ h) (HA.out _ h) (HB.out _ h)); have HF := Lib.hid (fun w (h : Under W w) => hF w v (.slice pa av.length ca) (HV.out _ h)); have c0 : (c == 0) = false := by simpa using hc
   have c1:(c != 0)=true:=by simpa using hc
   have hz:((⟨([]:List UInt8).toArray⟩:ByteArray).toList==[])=true:=by kernel_rfl
   unfold gLA at HP HF;generalize (⟨([]:List UInt8).toArray⟩:ByteArray)=SS at *;clear hP hF h1 h2 h3 h4 hv hc HE HB HA;refine nC zD fun τ d=>?_
   have HW:=Lib.hid (HW.out.re τ d);generalize re _ τ d=wx at *;go_wp2_with fail;refine(HP.out _ HW.out).mono ?_;rintro e w3 ⟨rfl,hU3⟩;have HW:=Lib.hid (HW.out.trans hU3);clear hU3;go_wp2_with fail;refine(HF.out _ HW.out).mono ?_;rintro e w4 ⟨rfl,hU4⟩;have HW:=Lib.hid (HW.out.trans hU4);clear hU4;go_wp2;exact pG rfl rfl ⟨rfl,HW.out⟩
 have hc:=gH hok hd (by omega);have e1:∀ p,nmZ p (flat T)=aC p [] (flat T):=fun p=>if_pos hc
 have HP:=Lib.hid (fun w (h:Under W w)=>hP w v _ (HV.out _ h) (HA.out _ h) (HB.out _ h));have HDp:=Lib.hid (fun w (h:Under W w)=>r4A T hok w v (flat T) rfl (by omega) (HV.out _ h));have HN:=Lib.hid (fun w (h:Under W w)=>gHA (flat T) h1 h3 w v (HV.out _ h) (HB.out _ h));have hla:(aC vG [] (flat T)).length≤120:=by have:=lM vG (flat T) [];simp at this;omega
 have hlb:(aC qJ [] (flat T)).length≤120:=by have:=lM qJ (flat T) [];simp at this;omega
 have HRd := Lib.hid (fun (h : bJ (aC vG [] (flat T)) = false) (h' : bJ (aC qJ [] (flat T)) = false) (w : World) (hU : Under W w) (p1 p2 : Option Addr) (d1 d2 : Nat) (hcs : TextsV w (.slice p1 (aC vG [] (flat T) ++ av).length d1) (aC vG [] (flat T) ++ av)) (hds : TextsV w (.slice p2 (aC qJ [] (flat T)).length d2) (aC qJ [] (flat T))) =>
   rIA (av:=aC vG [] (flat T)++av) hok hd h1 hin (uDA (fun x hx=>bKA T hok hx) h h' (fun s hs=>⟨List.mem_append_left _ hs,List.mem_append_left _ hs⟩)) (by rw[List.length_append];omega) w (HE.out _ hU) (HB.out _ hU).shapes hcs hds (by rw[List.length_append];omega) (by omega))
 have HSm := Lib.hid (fun w (h : Under W w) (u : Value) (hu : TermV w u (flat T)) => eNA (w0 := w) (flat T) (flat T) (by simp only [maxLen]; omega) hu (HV.out _ h)); unfold vVA at HN; simp only [hc, e1] at HN; have HLn := Lib.hid (And.intro hla (And.intro hlb (And.intro h1 h2))); clear hP h1 h2 h3 h4 hv hc e1 hok hd hin hla hlb HE HB HA; unfold gLA at HP; generalize (⟨(aG (aC vG [] (flat T) ++ av) T []).toArray⟩ : ByteArray) = SS at *; generalize aC vG [] (flat T) = cs at *; generalize aC qJ [] (flat T) = ds at *; generalize flat T = t at *; refine aF zD (nC zD fun τ d => ?_); have HW := Lib.hid (HW.out.re τ d); generalize re _ τ d = wx at *; go_wp2_with fail; refine (HP.out _ HW.out).mono ?_; rintro e w3 ⟨rfl, hU3⟩; have HW := Lib.hid (HW.out.trans hU3); clear hU3; go_wp2; refine aF zD (nC zD fun τ d => ?_); have HW := Lib.hid (HW.out.re τ d); generalize re _ τ d = wx at *; go_wp2; refine aF zD (nC zD fun τ d => ?_); have HW := Lib.hid (HW.out.re τ d); generalize re _ τ d = wx at *; go_wp2_with fail; refine (HN.out _ HW.out).mono ?_; rintro e w6 ⟨q1, c1, q2, c2, rfl, ha6, hb6, hU6⟩; have HW0 := Lib.hid (HW.out.trans hU6); have HW := Lib.hid (Under.refl w6); have HKa := Lib.hid (fun w (h : Under w6 w) => jW cs (by have := HLn.out.1; omega) (ha6.under h)); have HKb := Lib.hid (fun w (h : Under w6 w) => jW ds (by have := HLn.out.2.1; omega) (hb6.under h)); have HRe := Lib.hid (fun f1 f2 w (h : Under w6 w) p1 d1 hcs => HRd.out f1 f2 w (HW0.out.trans h) p1 q2 d1 c2 hcs (hb6.under h)); have HSn := Lib.hid (fun w (h : Under w6 w) u hu => HSm.out w (HW0.out.trans h) u hu); have HDn := Lib.hid (fun w (h : Under w6 w) => HDp.out w (HW0.out.trans h)); have HRc := Lib.hid (show cs.length ≤ c1 ∧ (q1 = none → c1 = 0) ∧ RowArg w6 q1 (cs.map .string) from by
   obtain⟨_,_,e,g1,g2,g3⟩:=ha6
   cases e;exact⟨g1,g2,g3⟩)
 clear ha6 hb6 hU6 HRd HSm HN HP HDp;go_wp2;refine aF zD (nC zD fun τ d=>?_);have HW:=Lib.hid (HW.out.re τ d);generalize re _ τ d=wx at *
 cases f1:bJ cs;rotate_left
 · rw[f1]at HKa;go_wp2_with fail;refine(HKa.out _ HW.out).mono ?_;rintro e w7 ⟨rfl,hU7⟩;have HW:=Lib.hid (HW.out.trans hU7);clear hU7;go_wp2;exact pG rfl rfl ⟨rfl,HW0.out.trans HW.out⟩
 rw[f1]at HKa;go_wp2_with fail;refine(HKa.out _ HW.out).mono ?_;rintro e w7 ⟨rfl,hU7⟩;have HW:=Lib.hid (HW.out.trans hU7);clear hU7
 cases f2:bJ ds;rotate_left
 · rw[f2]at HKb;go_wp2_with fail;refine(HKb.out _ HW.out).mono ?_;rintro e w8 ⟨rfl,hU8⟩;have HW:=Lib.hid (HW.out.trans hU8);clear hU8;go_wp2;exact pG rfl rfl ⟨rfl,HW0.out.trans HW.out⟩
 rw[f2]at HKb;go_wp2_with fail;refine(HKb.out _ HW.out).mono ?_;rintro e w8 ⟨rfl,hU8⟩;have HW:=Lib.hid (HW.out.trans hU8);clear hU8;have HX:=Lib.hid (HRe.out f1 f2);clear f1 f2 HRe HKa HKb;go_wp2_with fail;refine(HDn.out _ HW.out).mono ?_;rintro e w9 ⟨dn,hdn,rfl,hU9⟩;have HW:=Lib.hid (HW.out.trans hU9);clear hU9;have hd9:(dn:Int)≤120:=by have:=HLn.out.2.2.1;omega
 clear hdn HDn;by_cases hdp:(20:Int) < (dn:Int)
 · go_wp2;exact pG rfl rfl ⟨rfl,HW0.out.trans HW.out⟩
 by_cases hsz:(20000:Int) < (SS.size:Int)
 · go_wp2;exact pG rfl rfl ⟨rfl,HW0.out.trans HW.out⟩
 go_wp2;refine aF zD (nC zD fun τ d=>?_);have HW:=Lib.hid (HW.out.re τ d);generalize re _ τ d=wx at *;have HO:=Lib.hid (aK wx w6.heap.size 9 1 HW.out.size);go_wp2;have HW:=Lib.hid (HW.out.trans (aA (Under.refl _) (.cells #[] 9)));generalize wx.alloc (.cells #[] 9)=wy at *;have hcs1:cs.length≤120:=HLn.out.1;have hav1:av.length≤30:=HLn.out.2.2.2;refine aF zD (nC zD fun τ d=>?_);have HO:=Lib.hid (show(re wy τ d).ownsRow w6.heap.size 9 1 _ 0 [] from HO.out);have HW:=Lib.hid (HW.out.re τ d);generalize re wy τ d=wz at *;go_wp2_with (at_builtin;refine wJ rfl _ _ 22 rfl w6.heap.size 9 i0 _ 1 16 Tryz.underlying22 hi hz0 hz1 hz2 rfl (by decide) _ _ _ rfl HO.out q1 cs.length c1 (cs.map .string) rfl (by simp) HRc.out.1 HRc.out.2.1 (HRc.out.2.2.under HW.out) (by simp[Value.oneCell']) (by simp only[maxLen];omega) (by omega) HW.out.size ?_);intro v1 w1 hown hgrow;have HW:=Lib.hid (eB HW.out hgrow fun z e=>(iC HO.out e).1);have HO:=Lib.hid hown;clear hown hgrow;go_wp2;refine aF zD (nC zD fun τ d=>?_);have HO:=Lib.hid (show(re w1 τ d).ownsRow w6.heap.size 9 1 v1 cs.length (cs.map .string) from HO.out);have HW:=Lib.hid (HW.out.re τ d);generalize re w1 τ d=wz at *;go_wp2_with (at_builtin;refine wJ rfl _ _ 22 rfl w6.heap.size 9 i0 _ 1 16 Tryz.underlying22 hi hz0 hz1 hz2 rfl (by decide) _ _ _ rfl HO.out pa av.length ca (av.map .string) rfl (by simp) HRa.out.1 HRa.out.2.1 (HRa.out.2.2.under (HW0.out.trans HW.out)) (by simp[Value.oneCell']) (by simp only[maxLen];omega) (by omega) HW.out.size ?_);intro v2 w2 hown hgrow;have HW:=Lib.hid (eB HW.out hgrow fun z e=>(iC HO.out e).1);have hT2:=TextsV.of_own (ss:=cs++av) (by rw[List.length_append,List.map_append];simpa using hown);have HT2:=Lib.hid hT2;obtain⟨p2,k2,rfl,_⟩:=hT2;clear hown hgrow HO;go_wp2;have HX3:=HX.out w2 HW.out p2 k2 HT2.out;clear HX HT2;refine aF zD ?_;refine aW zD 4 (by decide) fun τ d=>?_
 simp only[List.take_succ_cons,List.take_zero];go_wp2;refine fDA ?_ τ d;refine xV (i:=4) (rest:=List.range' 5 7) zD rfl (by rfl) (mQ (vs:=#[.agg #[.slice p2 (cs++av).length k2,.slice q2 ds.length c2],.string SS]) rfl Tryz.func16 (by kernel_rfl) rfl (by simp[Act.eval])) HX3 ?_;rintro v9 w9 ⟨hU9,u,rfl,hV9⟩;have HV9:=Lib.hid hV9;clear hV9 HX3;have HW:=Lib.hid (HW.out.trans hU9);clear hU9;have hV9:=HV9.out;obtain⟨r9,k9,rfl,_⟩:=hV9;refine fT zD 5 7 0 (by decide) fun τ d=>?_
 simp only[List.drop_succ_cons,List.drop_zero,List.take_succ_cons,List.take_zero];walk_nrm;go_wp2;refine uZ zD ?_;simp only[Exit.then];refine yBA ?_ τ d;refine nC zD fun τ d=>?_
 have HS2:=Lib.hid (HSn.out (re w9 τ d) (HW.out.re τ d) _ (dFA HV9.out τ d));have HW:=Lib.hid (HW.out.re τ d);generalize re w9 τ d=wz at *;rw[oAA]at HS2;go_wp2_with fail;refine HS2.out.mono ?_;rintro e wy ⟨rfl,hUy⟩;have HW:=Lib.hid (HW.out.trans hUy);clear hUy;go_wp2;exact pG rfl rfl ⟨rfl,HW0.out.trans HW.out⟩
end
end Go.Proofs.YtlnlpdephijcoaaGreatDoor
namespace Go.Proofs.YtlnlpdephijcoaaGreatDoor
open Go
theorem eIA:mapsRowed Tryz.pinned.checked.prog=true:=by kernel_rfl
theorem fIA:(Rows.prettyNamesRow.inPlace==Tryz.pinned.checked.prog.inPlace 6)=true:=by kernel_rfl
theorem kIA:(Rows.prettyNamesRow.unfollowed==Tryz.pinned.checked.prog.unfollowed 6)=true:=by kernel_rfl
theorem uHA:(Rows.prettyNamesRow.recurses==Tryz.pinned.checked.prog.recurses 6)=true:=by kernel_rfl
theorem tHA:(Rows.prettyNamesRow.named==Tryz.pinned.checked.prog.varsNamed 6)=true:=by kernel_rfl
theorem tAA:joinedFacts Tryz.pinned.checked.prog 6 Tryz.f6 Rows.prettyNamesSpec Rows.prettyNamesRow=true:=by
 unfold joinedFacts;rw[eIA,fIA,kIA,uHA,tHA]
 kernel_rfl
end Go.Proofs.YtlnlpdephijcoaaGreatDoor
namespace Go.Proofs.YtlnlpdephijcoaaGreatDoor
open Go.ChangeShapes Go.WideShapes Go.ChangeAt Go.WideMaps Go.WideElems Go.RowKit Go.Lx Go.Deep Go.Conc
theorem mZ(os:Os)(started:os.Started)(H:Type)(enc:TypeId×Value→H) :
 ReturnsInLeavingWide {} Tryz.checked os 6 .any (fun w args => (Rows.prettyNamesSpec.pre enc Tryz.prog Tryz.f6 [] false w args ∧ laidMetH Tryz.prog hCA w) ∧ sizedMet enc Tryz.prog Tryz.f6 (OpenSpec.ofChange Rows.prettyNamesSpec) false w args)
   (Rows.prettyNamesSpec.post enc Tryz.prog Tryz.f6 false true false false):=by
 refine aU (C := Tryz.checked) (X := fun w _ => laidMetH Tryz.prog hCA w) (fun _ _ _ hh h => h.of_heap hh) Tryz.own started Tryz.func6
   (ChangeSpec.witness_shaped (enc:=enc) (C:=Tryz.checked) (os:=os) (X:=fun w _=>laidMetH Tryz.prog hCA w) false (World.doorLaid Tryz.prog 400 os) #[.slice none 0 0,.slice none 0 0] 8 rfl (World.shaped_of_RefB (by kernel_rfl) (by kernel_rfl)) (by kernel_rfl) (by kernel_rfl) (by kernel_rfl) (tPA os _)) ?_
 intro W base args ds gs before hval0 hW _ _ hL _;have hval:∀(j:Nat) t v,Tryz.f6.params[j]? = some t→args[j]? = some v→Value.okWide Tryz.prog W .any base t v:=hval0;have hW':=hW;obtain⟨p,q,hA0,hV,rfl,_,_⟩:=hW;have hA:DataW.TrodAll enc Tryz.prog W 0 (fun _=>true) true Tryz.f6.params.toList args.toList ds p:=hA0;rw[Tryz.params6]at hA hval;have hlt:=hA.lt;obtain⟨v0,v1,d0,d1,p0,p1,rfl,rfl,rfl,h0,h1⟩:=trodAll_two hA;obtain⟨rfl,rfl⟩:=trodVars_none hV;have g0:=h0;obtain⟨a0,b0,c0,rfl⟩:=okWide_slice Tryz.underlying30 (hval 0 30 v0 rfl rfl);obtain⟨fuel0,hf0⟩:=g0;obtain⟨u0,l0,hcs0,ha0⟩:=kAB hf0;simp only[Value.cells,List.cons.injEq,and_true]at hcs0;obtain rfl:=hcs0;have g1:=h1;obtain⟨a1,b1,c1,rfl⟩:=okWide_slice Tryz.underlying22 (hval 1 22 v1 rfl rfl);obtain⟨fuel1,hf1⟩:=g1;obtain⟨u1,l1,hcs1,ha1⟩:=jAB hf1;simp only[Value.cells,List.cons.injEq,and_true]at hcs1;obtain rfl:=hcs1;have hB:=yUA hL;refine fV (P:=Tryz.prog) Tryz.func6 rfl rfl (by kernel_rfl) ((fUA l0 l1 ha0 ha1 hB.1 ⟨hB.2,hB.1.pow⟩).mono ?_);rintro v w ⟨rfl,hU⟩ τ d;refine ChangeSpec.post_alike (W'':=re w W.tape d) ?_ ⟨rfl,rfl,rfl⟩;have hb:=qJA hU d;refine⟨_,_,_,[],p0++p1,[],hW',?_,?_,rfl,hb.frame _,fun h=>by cases h⟩
 · exact trodAll_mk1 (qHA true)
 · exact trodAll_mk2 (wLA (by kernel_rfl) (by decide +kernel) hU d (fun x hx=>hlt x (by simp[hx])) h0) (wLA (by kernel_rfl) (by decide +kernel) hU d (fun x hx=>hlt x (by simp[hx])) h1)
theorem prettyNames_holds : Rows.PrettyNamesSaid :=
 OpenClaim.holds_of_wide_leaving 6 Tryz.f6 rfl rfl rfl rfl rfl rfl rfl ⟨rfl, rfl, rfl, rfl, rfl⟩ rfl rfl rfl rfl rfl (by kernel_rfl) Tryz.func6 tAA
   (of_decide_eq_true (by kernel_rfl)) (by unfold Func.isWrapper;first | (rw[if_pos (by decide +kernel)];kernel_rfl) | (rw[if_neg (by decide +kernel)];exact⟨rfl,rfl⟩))
   (fun os started H enc _=>mZ os started H enc)
end Go.Proofs.YtlnlpdephijcoaaGreatDoor
