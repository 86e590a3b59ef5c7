/- Part 39 of what the proof rests on. -/
import Derived.Deep.RegionLaw
import Derived.Lib.SliceRun
import Derived.Test.YtlnlpdephijcoaaGreatDoorM13
import Derived.Test.YtlnlpdephijcoaaGreatDoorM33
import Derived.Test.YtlnlpdephijcoaaGreatDoorM35
import Derived.Test.YtlnlpdephijcoaaGreatDoorM37
import Derived.Test.YtlnlpdephijcoaaGreatDoorM38
set_option linter.unusedSimpArgs false
set_option linter.unusedVariables false
set_option maxRecDepth 100000
set_option maxHeartbeats 1000000
namespace Go.Proofs.YtlnlpdephijcoaaGreatDoor
open Go.Lx Go.RowKit
def yY(T:Tm)(k:Nat):Prop:=∀(W0 w:World) (L:Lay) (ks:lD) (st av ls:List ByteArray) (sv lv xv:Value),Pow10 W0→ShapesAt 0 W0→UnS W0 L ks st sv ls lv xv T w→TakenIs ks (av++st) →
 av.length≤90000→st.length+k+2 * (flat T).length≤90000→ls.length+k≤90000→(∀ s∈st,s.size≤22)→inT T (st.length+k) →
 Calls Tryz.prog 83 #[.int .i64 (k:Int),ptr L.lb,ptr L.p2,ptr L.xb,ptr L.ub] w fun e w'=>(∃ v,e = .returned v)∧∃ sv' lv',UnS W0 L ks st sv' (ls++dE av st k++[⟨(aG av T (st++dE av st k)).toArray⟩]) lv' xv T w'∧Ch (UnC L sv lv) w w' ∧
  (∀ b,b < w.heap.size→sv'.ownBlock=some b→sv.ownBlock=some b)∧∀ b,b < w.heap.size→lv'.ownBlock=some b→lv.ownBlock=some b
theorem f0A{W0 w:World}{L:Lay}{ks:lD}{st ls:List ByteArray}{sv lv xv:Value}{T:Tm}(h:UnS W0 L ks st sv ls lv xv T w):oDB L.pb L.tb sv xv:=by
 rintro b off x n c rfl hc;have h':(Value.slice (some ⟨b,off,x⟩) n c).ownBlock=some b:=rfl;exact h.x_out b h' (.inl hc)
theorem pYA{w:World}{base:Nat}{e:TypeId}{v:Value}{t:List Nd}(h:w.ownsRow base e 4 v t.length (zB t)):TermV w v t:=by
 have hc:∀ q n c,v = .slice q n c→q=none→c=0:=by
  intro q n c e hq;subst hq;rcases h.2 with⟨rfl,_⟩ | ⟨g,cap,cur,e',_⟩
  · cases e;rfl
  · rw[e']at e;cases e
 obtain⟨q,c,rfl,h1,h2⟩:=RowArg.of_own h;exact⟨q,c,rfl,h1,hc q _ c rfl,h2⟩
theorem kPA{W0 w w5:World}{L:Lay}{ks:lD}{st ls:List ByteArray}{sv lv xv:Value}{T:Tm}(h:UnS W0 L ks st sv ls lv xv T w){x:ByteArray}(hgr:(w.alloc (.cells #[.string x] 9)).grownBy w5 lv.ownBlock):BoxAt w5 L.lb 22 #[lv]:=by
 have hc5:Ch (fun i=>lv.ownBlock=some i) w w5:=(Ch.of_under (aA (Under.refl w) _)).grown hgr (fun g e _=>e);exact pF h.lbx hc5 (fun e=>jC h.lbx h.lrow (by decide) e)
theorem iUA(T:Tm)(hok:okT T)(hd:rC T≤60)(hn:(flat T).length≤4000)(hW:jJ T):yY T 0:=by
 intro W0 w L ks st av ls sv lv xv hP hS hU hT ha hst hls hss hin;obtain⟨i0,hi,hz0,hz1,hz2⟩:=info_parts Tryz.infoStrZ;have HC:=Lib.hid (fun w (hU:UnS W0 L ks st sv ls lv xv T w)=>hW hok hd hn W0 w L.pb L.hb L.tb ks st av sv xv hP hS hU.pr hT (pYA hU.part) (f0A hU) ha (by omega) hss (by simpa using hin));have HSay:RowKit.Hid (dE av st 0=[]):=Lib.hid rfl;have hU1:UnS W0 L ks st sv ls lv xv T ((w.alloc (.cells #[.int .i64 0] 3)).drew):=hU.und (bA (aA (Under.refl w) _));obtain⟨qx,cx,rfl,_,_⟩:=RowArg.of_own hU.part;obtain⟨ql,cl,rfl,_,_⟩:=RowArg.of_own hU.lrow;have HU:=Lib.hid hU;have HU1:=Lib.hid hU1
 show Calls Tryz.prog 83 #[.int .i64 0,.pointer (some ⟨L.lb,0,none⟩),.pointer (some ⟨L.p2,0,none⟩),.pointer (some ⟨L.xb,0,none⟩),.pointer (some ⟨L.ub,0,none⟩)] w _
 obtain⟨X,hX⟩:∃ X:ByteArray,X=⟨(aG av T st).toArray⟩:=⟨_,rfl⟩;have HX:=Lib.hid hX;have HBd:RowKit.Hid (dE av st 0=[]):=Lib.hid rfl;rw[← hX]at HC;rw[HBd.out];simp only[List.append_nil];rw[← hX];have l0:(w.alloc (.cells #[.int .i64 0] 3)).drew.cell? ⟨L.lb,0,none⟩=some (.slice ql ls.length cl):=hU1.lbx.cell 0;have l1:(w.alloc (.cells #[.int .i64 0] 3)).drew.cell? ⟨L.p2,0,none⟩=some (.pointer (some ⟨L.pb,0,none⟩)):=hU1.p2x.cell 0;have l2:(w.alloc (.cells #[.int .i64 0] 3)).drew.cell? ⟨L.xb,0,none⟩=some (.slice qx (flat T).length cx):=hU1.xbx.cell 0;have b0:=hU1.lbx.lt;have b1:=hU1.p2x.lt;have b2:=hU1.xbx.lt;clear hX hU hU1 hW hP hS hin hss;go_enter Tryz.func83,Tryz.ntmps83;go_wp2_with fail
 go_region_law
   (first
     | (go_simp; go_at_call 44; refine (HC.out _ HU1.out).mono ?_; rintro e w4 ⟨rfl, sv4, hP4, hC4, hO4⟩
        have hU4:=HU1.out.ch hC4 hP4 hO4;have HU4:=Lib.hid hU4;have HC4:=Lib.hid hC4;have HO4:=Lib.hid hO4;have l3:w4.cell? ⟨L.p2,0,none⟩=some (.pointer (some ⟨L.pb,0,none⟩)):=hU4.p2x.cell 0;have l4:w4.cell? ⟨L.xb,0,none⟩=some (.slice qx (flat T).length cx):=hU4.xbx.cell 0;have l5:w4.cell? ⟨L.lb,0,none⟩=some (.slice ql ls.length cl):=hU4.lbx.cell 0;have l6:(w4.alloc (.cells #[.string X] 9)).cell? ⟨L.lb,0,none⟩=some (.slice ql ls.length cl):=(hU4.lbx.alloc _).cell 0;have b3:=hU4.lbx.lt;have b4:=hU4.p2x.lt;have b5:=hU4.xbx.lt;clear hU4 hP4 hC4 hO4)
     | (refine step_append_lies _ (by rfl) _ _ _ (by rfl) W0.heap.size 9 i0 _ 1 16 Tryz.underlying22 hi hz0 hz1 hz2 rfl (by omega) (.slice ql ls.length cl) ls.length (ls.map .string) (by rfl) (HU4.out.lrow.alloc _)
         ⟨w4.heap.size,0,none⟩ 1 1 [.string X] (by rfl) (by rfl) (World.news_of_block (cs:=#[.string X]) (t:=9) (fr:=(0,0)) (heap_alloc_new w4 _)) (by simp[Value.oneCell'])
         (by omega) (by simp only[maxLen];omega) (by omega) (by have:=HU4.out.pr.und.size;simp;omega) (w4.heap.size+1) (by simp) ?_;intro gg cc w5 hown hgrow hat hlt
        have hb5:=kPA HU4.out hgrow;have l7:w5.cell? ⟨L.lb,0,none⟩=some (.slice ql ls.length cl):=hb5.cell 0;have l8:=hb5.free 0;have b6:=hb5.lt))
 all_goals
  obtain⟨h1,h2,h3⟩:=HU4.out.push hown hgrow hat;have HF:=Lib.hid h1;have HC6:=Lib.hid h2;have HO6:=Lib.hid h3;clear h1 h2 h3 hown hgrow hat hlt hb5 l0 l1 l2 l3 l4 l5 l6 l7 l8 b0 b1 b2 b3 b4 b5 b6;go_wp2;refine bodyPost_ret (results_none rfl _ _ _) rfl ?_;have hz1:=HU1.out.pr.und;have hz2:w.heap.size≤(w.alloc (.cells #[.int .i64 0] 3)).drew.heap.size:=(bA (aA (Under.refl w) _)).size;refine⟨⟨_,rfl⟩,sv4,_,HF.out,?_,fun b hb e=>HO4.out b (by omega) e,fun b hb e=>HO6.out b (by have:=HC4.out.size;omega) e⟩;exact((Ch.of_under (C:=UnC L sv (.slice ql ls.length cl)) (bA (aA (Under.refl w) _))).trans HC4.out (fun i _ h=>.inl h)).trans HC6.out (fun i _ h=>.inr h)
theorem f8A (T : Tm) (k : Nat) (hI : yY T k) {W0 w : World} {L : Lay} {ks : lD} {st av ls : List ByteArray} {sv lv xv : Value} {nm : ByteArray} {kb : Nat} (hP : Pow10 W0) (hS : ShapesAt 0 W0) (hU : UnS W0 L ks st sv ls lv xv T w)
    (hk:BoxAt w kb 3 #[.int .i64 ((k+1:Nat):Int)]) (hT:TakenIs ks (av++st)) (ha:av.length≤90000) (hst:st.length+k+2 * (flat T).length≤90000) (hls:ls.length+1+k≤90000) (hss:∀ s∈st,s.size≤22) (hin:inT T (st.length+k)) :
    Calls Tryz.prog 85 #[.string nm,.pointer (some ⟨L.lb,0,none⟩),.pointer (some ⟨L.ub,0,none⟩),.pointer (some ⟨kb,0,none⟩)] w fun e w'=>(∃ v,e = .returned v)∧∃ sv' lv',UnS W0 L ks st sv' (ls++[nm]++dE av st k++[⟨(aG av T (st++dE av st k)).toArray⟩]) lv' xv T w'∧Ch (UnC L sv lv) w w' ∧
     (∀ b,b < w.heap.size→sv'.ownBlock=some b→sv.ownBlock=some b)∧∀ b,b < w.heap.size→lv'.ownBlock=some b→lv.ownBlock=some b:=by
  obtain⟨i0,hi,hz0,hz1,hz2⟩:=info_parts Tryz.infoStrZ;have HI:=Lib.hid (fun w lv (hU:UnS W0 L ks st sv (ls++[nm]) lv xv T w)=>hI W0 w L ks st av (ls++[nm]) sv lv xv hP hS hU hT ha hst (by rw[List.length_append,List.length_singleton];omega) hss hin);obtain⟨ql,cl,rfl,_,_⟩:=RowArg.of_own hU.lrow;have HU:=Lib.hid hU;have HK:=Lib.hid hk;have l0:w.cell? ⟨L.lb,0,none⟩=some (.slice ql ls.length cl):=hU.lbx.cell 0;have b0:=hU.lbx.lt;have hk0:(0:Int)≤(k:Int):=Int.natCast_nonneg _;have hk9:(k:Int)≤90000:=by omega
  clear hI hU hk hT hP hS hin hss; go_enter Tryz.func85, Tryz.ntmps85; go_wp2_with (at_builtin; refine wpList_append_lies _ rfl _ _ 22 rfl W0.heap.size 9 i0 _ 1 16 Tryz.underlying22 hi hz0 hz1 hz2 rfl (by decide) (.slice ql ls.length cl) ls.length (ls.map .string) rfl (HU.out.lrow.alloc _) ⟨w.heap.size, 0, none⟩ 1 1 [.string nm] rfl rfl (cell_one_new _ _ _) (by simp [Value.oneCell']) (by omega) (by simp only [maxLen]; omega) (by omega) (by have := HU.out.pr.und.size; simp; omega) (w.heap.size + 1) (by simp) ?_); intro gg cc w5 hown hgrow hat hlt; have hb5 := kPA HU.out hgrow; have l7 : w5.cell? ⟨L.lb, 0, none⟩ = some (.slice ql ls.length cl) := hb5.cell 0; have l8 := hb5.free 0; have b6 := hb5.lt; obtain ⟨h1, h2, h3⟩ := HU.out.push hown hgrow hat; have HF := Lib.hid h1; have HC6 := Lib.hid h2; have HO6 := Lib.hid h3; have hk6 := pF HK.out h2 (by
    rintro(e | e)
    · exact uI HK.out HU.out.lbx (by decide) e
    · exact jC HK.out HU.out.lrow (by decide) e)
  have m0:=h1.ubx.cell 0;have m1:=h1.ubx.lt;have m2:=hk6.cell 0;have m3:=hk6.lt;simp only[ptr]at m0;clear h1 h2 h3 hown hgrow hat hlt hb5 l0 b0;go_wp2_with fail;refine(HI.out _ _ HF.out).mono ?_;rintro e w7 ⟨⟨v7,rfl⟩,sv7,lv7,hU7,hC7,hO7,hL7⟩;have HU7:=Lib.hid hU7;have HC7:=Lib.hid hC7;have HO7:=Lib.hid hO7;have HL7:=Lib.hid hL7;clear hU7 hC7 hO7 hL7 m0 m1 m2 m3 hk6 l7 l8 b6;go_wp2
  go_end0
  have hz:=HC6.out.size;refine⟨⟨_,rfl⟩,sv7,lv7,HU7.out,(HC6.out.weak (D:=UnC L sv (.slice ql ls.length cl)) (fun i _ h=>.inr h)).trans HC7.out (fun i hi h=>?_),fun b hb e=>HO7.out b (by omega) e,fun b hb e=>HO6.out b hb (HL7.out b (by omega) e)⟩;rcases h with h | h | h
  · exact .inl h
  · exact .inr (.inl h)
  · exact .inr (.inr (HO6.out i hi h))
def UnR(W0:World)(L:Lay)(w:World)(lv:Value)(ls':List ByteArray)(o:Option Nat)(w':World):Prop :=
 ∃ lv',BoxAt w' L.lb 22 #[lv']∧w'.ownsRow W0.heap.size 9 1 lv' ls'.length (ls'.map .string)∧(lv'.ownBlock=none∨lv'.ownBlock≠o)∧(∀ b,b < w.heap.size→lv'.ownBlock=some b→lv.ownBlock=some b)∧lv'.ownBlock≠some L.pb∧lv'.ownBlock≠some L.tb∧L.lb≠L.pb∧L.lb≠L.tb
theorem UnR.ch{W0 w a b:World}{L:Lay}{lv:Value}{ls':List ByteArray}{o:Option Nat}(h:UnR W0 L w lv ls' o a)(hc:Ch (fun i=>i=L.pb∨i=L.tb) a b):UnR W0 L w lv ls' o b:=by
 obtain⟨lv',h1,h2,h3,h4,h5,h6,h7,h8⟩:=h;refine⟨lv',pF h1 hc (by rintro(e | e);exact h7 e;exact h8 e),fK h2 hc (fun g hg=>by rintro(rfl | rfl);exact h5 hg;exact h6 hg),h3,h4,h5,h6,h7,h8⟩
theorem UnS.at_un{W0 w w':World}{L:Lay}{ks ks':lD}{st st' ls ls':List ByteArray}{sv sv' lv xv:Value}{T:Tm}(h:UnS W0 L ks st sv ls lv xv T w)(hc:Ch (fun b=>PrC L.pb L.tb sv b∨(b=L.lb∨lv.ownBlock=some b)) w w')(hP:PrS W0 L.pb L.hb L.tb ks' st' sv' w')(hR:UnR W0 L w lv ls' sv'.ownBlock w') :
 ∃ lv',UnS W0 L ks' st' sv' ls' lv' xv T w'∧∀ b,b < w.heap.size→lv'.ownBlock=some b→lv.ownBlock=some b:=by
 obtain⟨lv',h1,h2,h3,h4,_⟩:=hR;exact⟨lv',⟨hP,h1,h2,h3,pF h.p2x hc (h.box_outU h.p2x (by decide) (by decide) (by decide)),pF h.xbx hc (h.box_outU h.xbx (by decide) (by decide) (by decide)),pF h.ubx hc (h.box_outU h.ubx (by decide) (by decide) (by decide)),fK h.part hc (fun g hg=>h.x_out g hg),h.lo⟩,h4⟩
theorem UnS.un{W0 w w':World}{L:Lay}{ks:lD}{st ls:List ByteArray}{sv lv lv' xv:Value}{T:Tm}(h:UnS W0 L ks st sv ls lv xv T w')(ho:∀ b,b < w.heap.size→lv.ownBlock=some b→lv'.ownBlock=some b):UnR W0 L w lv' ls sv.ownBlock w' :=
 ⟨lv,h.lbx,h.lrow,h.apart,ho,fun e=>h.l_out _ e (.inl rfl),fun e=>h.l_out _ e (.inr (.inl rfl)),uI h.lbx h.pr.box (by decide),xI h.lbx h.pr.taken⟩
theorem yRA(T:Tm)(k:Nat)(hI:yY T k):yY T (k+1):=by
 intro W0 w L ks st av ls sv lv xv hP hS hU hT ha hst hls hss hin;obtain⟨nm,hnm⟩:∃ nm,nm=bC (oD (av++st) st.length):=⟨_,rfl⟩;have hsp:=qI (av++st) st.length;rw[List.length_append]at hsp;have hnn:rD (av++st) nm=false:=by rw[hnm];exact hsp.2.2.1
 have hns:nm.size≤22:=by rw[hnm];exact lAA (by omega)
 have hB:dE av st (k+1)=nm::dE av (st++[nm]) k:=by rw[hnm];rfl
 have hl1:(st++[nm]).length=st.length+1:=by simp
 obtain⟨w',hw'⟩:∃ w',w'=w.alloc (.cells #[.int .i64 ((k:Int)+1)] 3):=⟨_,rfl⟩;have hUw:Under w w':=by rw[hw'];exact aA (Under.refl w) _
 have hU':=hU.und hUw;have hK':BoxAt w' w.heap.size 3 #[.int .i64 ((k+1:Nat):Int)]:=by rw[hw'];exact yA w _ _
 have hz' := hUw.size; have hbd := e6A (f := 85) (lb := #[.pointer (some ⟨L.lb, 0, none⟩), .pointer (some ⟨L.ub, 0, none⟩), .pointer (some ⟨w.heap.size, 0, none⟩)]) (C := fun b => b = L.lb ∨ lv.ownBlock = some b)
   (R:=UnR W0 L w' lv (ls++[nm]++dE av (st++[nm]) k++[⟨(aG av T ((st++[nm])++dE av (st++[nm]) k)).toArray⟩])) hP hU'.pr hT (by omega) (by omega) (enters_of Tryz.func85 (by kernel_rfl) rfl) (fun o a b h hc=>h.ch hc) ?hdo
 case hdo =>
   intro nm' hnm' w1 sv1 hc1 ho1 hP1;obtain rfl:nm=nm':=hnm.trans hnm'.symm;have hU1:=hU'.ch hc1 hP1 ho1;have hk1:=pF hK' hc1 (hU'.box_out hK' (by decide) (by decide));have hT1:TakenIs (ks++[(nm,.int .i64 1)]) (av++(st++[nm])):=by rw[← List.append_assoc];exact hT.snoc hnn
   refine(f8A T k hI hP hS hU1 hk1 hT1 ha (by omega) (by omega) (fun s hs=>?_) (by rw[hl1,Nat.add_assoc,Nat.add_comm 1 k];exact hin)).mono ?_
   · rcases List.mem_append.1 hs with hs | hs
     · exact hss s hs
     · rw[List.mem_singleton.1 hs];exact hns
   · rintro e w2 ⟨hv,sv2,lv2,hU2,hC2,hO2,hL2⟩;have:=hc1.size;exact⟨hv,sv2,hU2.pr,hC2,hO2,hU2.un (fun b hb e=>hL2 b (by omega) e)⟩
 have HBd:=Lib.hid hbd;have HU':=Lib.hid hU';have HUw:=Lib.hid hUw;have HB:=Lib.hid hB;have l1:w'.cell? ⟨L.p2,0,none⟩=some (.pointer (some ⟨L.pb,0,none⟩)):=hU'.p2x.cell 0;have b1:=hU'.p2x.lt;have hk0:(0:Int)≤(k:Int):=Int.natCast_nonneg _;have hk9:(k:Int)≤90000:=by omega
 have hk1:((k:Int)+1==0)=false:=by simp;omega
 have HE:=Lib.hid hw';have hcast:((k+1:Nat):Int)=(k:Int)+1:=by omega
 rw[hcast];unfold ptr;clear hI hP hS hU hT hss hin hsp hbd hU' hUw hB hnm hnn hns hl1 hK' hw';rw[HB.out];have hap:ls++nm::dE av (st++[nm]) k=ls++[nm]++dE av (st++[nm]) k:=by simp
 have hap2:st++nm::dE av (st++[nm]) k=(st++[nm])++dE av (st++[nm]) k:=by simp
 rw[hap,hap2];have c1:(w.alloc (.cells #[.int .i64 ((k:Int)+1)] 3)).cell? ⟨L.p2,0,none⟩=some (.pointer (some ⟨L.pb,0,none⟩)):=by rw[← HE.out];exact l1
 have c2:L.p2 < (w.alloc (.cells #[.int .i64 ((k:Int)+1)] 3)).heap.size:=by rw[← HE.out];exact b1
 clear l1 b1 hap hap2;rw[HE.out]at HBd;go_enter Tryz.func83,Tryz.ntmps83;go_wp2_with fail;refine HBd.out.mono ?_;rintro e w3 ⟨⟨v3,rfl⟩,sv3,hP3,hC3,hO3,hR3⟩;have HP3:=Lib.hid hP3;have HC3:=Lib.hid hC3;have HO3:=Lib.hid hO3;have HR3:=Lib.hid hR3;clear hP3 hC3 hO3 hR3 c1 c2 HBd;go_wp2
 go_end0
 have he:=HE.out;subst he;obtain⟨lv3,hU3,hL3⟩:=HU'.out.at_un HC3.out HP3.out HR3.out;refine⟨⟨_,rfl⟩,sv3,lv3,hU3,(Ch.of_under HUw.out).trans HC3.out (fun i _ h=>h),fun b hb e=>HO3.out b (by omega) e,fun b hb e=>hL3 b (by omega) e⟩
theorem jBA (T : Tm) (hok : okT T) (hd : rC T ≤ 60) (hn : (flat T).length ≤ 4000) (hW : jJ T) : ∀ k, yY T k
  | 0=>iUA T hok hd hn hW
  | k+1=>yRA T k (jBA T hok hd hn hW k)
section
variable {w0 : World}
theorem Tryz.infoNdZ:(Tryz.prog.info? 76).map (fun i=>(i.zero,i.size,i.bytes))=some (some (.agg #[.int .i64 0,.int .i64 0,.int .i64 0,.string ⟨#[]⟩]),4,40):=by kernel_rfl
theorem iPA(t:List Nd):∀ u∈zB t,u.oneCell'=true:=by
 induction t with
 | nil=>intro u hu;simp[zB]at hu
 | cons x t ih =>
   intro u hu;simp only[zB,List.mem_cons]at hu;rcases hu with rfl | rfl | rfl | rfl | hu
   · rfl
   · rfl
   · rfl
   · rfl
   · exact ih u hu
theorem xOA(t:List Nd){b off c:Nat}(hn:t.length≤100000)(hc:t.length≤c)(hr:RowArg w0 (some ⟨b,off,none⟩) (zB t)):Calls Tryz.prog 112 #[.slice (some ⟨b,off,none⟩) t.length c] w0 fun e w=>∃ v,e = .returned v∧w.ownsRow w0.heap.size 76 4 v t.length (zB t)∧Under w0 w:=by
 obtain⟨i0,hi,hz0,hz1,hz2⟩:=info_parts Tryz.infoNdZ;have eqn:=Lib.run_eql_slice_nil (P:=Tryz.prog) w0 30 76 (some ⟨b,off,none⟩) t.length c 0 0 Tryz.underlying30;have HR:=Lib.hid hr;clear hr;go_enter Tryz.func112,Tryz.ntmps112;go_wp2_with (at_builtin;refine wJ rfl _ _ 30 rfl w0.heap.size 76 i0 _ 4 40 Tryz.underlying30 hi hz0 hz1 hz2 rfl (by decide) _ _ _ rfl (aK w0 w0.heap.size _ _ (Nat.le_refl _)) (some ⟨b,off,none⟩) t.length c (zB t) rfl (pU t) hc (fun h=>by cases h) (HR.out.under (aA (Under.refl _) _)) (iPA t) (by simp only[maxLen];omega) (by omega) (by simp) ?_);intro v1 w1 hown hgrow;replace hown:w1.ownsRow w0.heap.size 76 4 v1 t.length (zB t):=by simpa using hown
 have HO:=Lib.hid hown;have HU:=Lib.hid (eB (aA (Under.refl w0) _) hgrow fun z e=>by cases e;exact Nat.le_refl _);obtain⟨q,d,rfl,_,_⟩:=RowArg.of_own hown;clear hown hgrow;go_wp2;go_ret;exact⟨_,rfl,HO.out,HU.out⟩
end
attribute [local go_sem] Oper.semAt_some
theorem p8 : ∀ (l : List Tm), jM l → ∀ (all : List (Nat × Nat)) (Fs : List Tm), ∃ all', qC (qA l) (qA Fs).length all (uE 0 Fs) = some (all ++ all', uE 0 (Fs ++ l)) ∧ all'.length = (qA l).length
  | [],_,all,Fs=>⟨[],by simp[qA,qC],rfl⟩
  | a :: l, h, all, Fs => by
    obtain⟨a1,h1,h2,_⟩:=nN a h.1 all Fs;obtain⟨a2,h3,h4⟩:=p8 l h.2 (all++a1) (Fs++[a]);refine⟨a1++a2,?_,by simp[qA,h2,h4]⟩;rw[qA,yL,h1];simp only[Option.bind_some];have:(qA Fs).length+(flat a).length=(qA (Fs++[a])).length:=by rw[jF];simp[qA]
    rw[this,h3,List.append_assoc,List.append_assoc];rfl
theorem bY{l:List Tm}{M:Nat}(hM:M < l.length):qA (l.take (M+1))=qA (l.take M)++flat l[M]:=by
 rw[List.take_succ_eq_append_getElem hM,jF];simp[qA]
theorem n7A{x:Nd}{l:List Tm}(hok:jM l){all op:List (Nat×Nat)}(hm:qC (flat (.mk x l)) 0 [] []=some (all,op)){M:Nat}(hM:M < l.length):∃ d,all[(qA (l.take (M+1))).length - 1]? = some ((qA (l.take M)).length,d):=by
 have h0:=hok;rw[← List.take_append_drop M l]at h0;obtain⟨hT,hD⟩:=zGA.1 h0;rw[List.drop_eq_getElem_cons hM]at hD;obtain⟨a1,p1,p2⟩:=p8 (l.take M) hT [] [];obtain⟨a2,q1,q2,q3⟩:=nN l[M] hD.1 a1 (l.take M);have hf:flat (.mk x l)=qA (l.take M)++(flat l[M]++(qA (l.drop (M+1))++[x])):=by
  rw[flat]
  conv=>lhs;rw[← List.take_append_drop M l]
  rw[jF,List.drop_eq_getElem_cons hM,qA];simp only[List.append_assoc]
 rw[hf,yL]at hm;simp only[qA,List.length_nil,uE,List.nil_append]at p1;rw[p1]at hm;simp only[Option.bind_some,Nat.zero_add]at hm;rw[yL,q1]at hm;simp only[Option.bind_some]at hm;refine⟨rC l[M],?_⟩;have hpos:=bL l[M];have hall:∃ r,all=(a1++a2)++r:=by
  generalize qA (l.drop (M+1))++[x]=t at hm
  revert hm
  generalize (qA (l.take M)).length+(flat l[M]).length=k;generalize uE 0 (l.take M++[l[M]])=o;generalize a1++a2=A
  induction t generalizing k A o with
  | nil=>intro hm;cases hm;exact⟨[],by simp⟩
  | cons y t ih =>
    intro hm;unfold qC at hm
    split at hm
    · cases hm
    · obtain⟨r,hr⟩:=ih _ _ _ hm;exact⟨_,by rw[hr,List.append_assoc]⟩
 obtain⟨r,rfl⟩:=hall;rw[bY hM,List.length_append];rw[List.getElem?_append_left (by rw[List.length_append];omega),List.getElem?_append_right (by omega)];rw[List.getLast?_eq_getElem?]at q3;rw[← q3];congr 1
 omega
theorem lKA(p q:Option Addr)(n c n2 c2:Nat)(w:World):Calls Tryz.prog 111 #[.slice p n c,.slice q n2 c2] w fun e w'=>e = .returned (.func (.func 130) #[] #[.pointer (some ⟨w.heap.size,0,none⟩),.pointer (some ⟨w.heap.size+1,0,none⟩)])∧w'=(w.alloc (.cells #[.slice p n c] 30)).alloc (.cells #[.slice q n2 c2] 122):=by
 go_enter Tryz.func111,Tryz.ntmps111;go_wp2;go_ret;exact⟨rfl,rfl⟩
def starts(l:List Tm)(M:Nat):Nat:=(qA (l.take M)).length
def nG (l : List Tm) : Nat → List (Nat × Nat × Nat)
  | 0=>[]
  | M+1=>(M,starts l M,starts l (M+1) - starts l M)::nG l M
def z0A(b off c:Nat)(x:Nat×Nat×Nat):Array Value:=#[.int .i64 (x.1:Int),.slice (some ⟨b,off+x.2.1 * 4,none⟩) x.2.2 (c - x.2.1)]
noncomputable def qQA:Code:=Tryz.f130.body.getD .skip
noncomputable def bkRound:Code:=oC (oC (fA (fA qQA)))
def nW(yf:Value)(tb mb E:Nat)(i:Int)(J:Nat→Value):Array Value:=#[yf,.pointer (some ⟨tb,0,none⟩),.pointer (some ⟨mb,0,none⟩),J 3,.int .i64 (E:Int),.int .i64 i,J 6,J 7,J 8,J 9,J 10,J 11,J 12,J 13,J 14,J 15,J 16,J 17,J 18,J 19,J 20,J 21,J 22,J 23,J 24,J 25,J 26,J 27,J 28,J 29,J 30,J 31,J 32,J 33,J 34]
section
variable {W0 : World} {tb mb n : Nat} {Jd : World → Prop} {Jx : World → Prop} {R : Nat → Prop}
def BBox(tb mb:Nat)(vt vm:Value)(A:World):Prop:=BoxAt A tb 30 #[vt]∧BoxAt A mb 122 #[vm]
theorem BBox.under{tb mb:Nat}{vt vm:Value}{A B:World}(h:BBox tb mb vt vm A)(hU:Under A B):BBox tb mb vt vm B:=⟨h.1.under hU,h.2.under hU⟩
theorem BBox.kept{tb mb:Nat}{vt vm:Value}{A B:World}{R:Nat→Prop}(h:BBox tb mb vt vm A)(hk:pOA R A B)(h1:R tb)(h2:R mb):BBox tb mb vt vm B:=⟨(hk.same _ h.1.lt (.inl h1)).trans h.1,(hk.same _ h.2.lt (.inl h2)).trans h.2⟩
def q4A(W0:World)(vt vm:Value)(tb mb E:Nat)(i:Int)(Jd:World→Prop)(yf:Value)(a:Act)(A:World):Prop:=∃ J,a=⟨nW yf tb mb E i J,[]⟩∧Jd A∧Under W0 A∧BBox tb mb vt vm A
def hCB(Jx:World→Prop)(e:Exit)(a:Act)(A:World):Prop:=e = .ret∧a.defers=[]∧Jx A
theorem rAB {l b off c N M E s g mc mn : Nat} {vt vm : Value} (hR : ∀ k, k < W0.heap.size → R k) (hRt : R tb) (hRm : R mb) (hvt : vt = .slice (some ⟨b, off, none⟩) N c) (hvm : vm = .slice (some ⟨g, 0, none⟩) mn mc) (hM : M ≤ 8) (hE : E ≤ N) (hsE : s < E) (hN : N ≤ c) (hN4 : N ≤ 4000) (hb : b < W0.heap.size)
    (hmn:E≤mn) (hg:g < W0.heap.size) (hc:W0.cell? ⟨g,(E - 1) * 2,none⟩=some (.int .i64 (s:Int)))
    (J:Nat→Value) (A:World) (hA:Under W0 A) (hBx:BBox tb mb vt vm A)
    (hY:∀ A2,Under A A2→YieldAt Fence.wide (n - 1) Tryz.prog l (z0A b off c (M,s,E - s)) A2 fun e A'=>(e = .returned (.bool true)∧Jd A'∧pOA R A2 A')∨(e = .returned (.bool false)∧Jx A')) :
    bkRound.wpIn Fence.wide n Tryz.prog (Exit.then (q4A W0 vt vm tb mb s ((M:Int) - 1) Jd (.func (.yield l) #[] #[])) (hCB Jx)) ⟨nW (.func (.yield l) #[] #[]) tb mb E (M:Int) J,[]⟩ A:=by
  subst hvt hvm;have HBx:=Lib.hid hBx;have HTb:=Lib.hid hBx.1;have HMb:=Lib.hid hBx.2;have HRt:=Lib.hid (And.intro hRt hRm);have t0:=HTb.out.cell 0;have tl:=HTb.out.lt;have m0:=HMb.out.cell 0;have ml:=HMb.out.lt;obtain⟨y,rfl⟩:∃ y,E=y+1:=⟨E - 1,by omega⟩;rw[Nat.add_sub_cancel,← jA hA hg]at hc;have hgA:=Nat.lt_of_lt_of_le hg hA.size;obtain⟨fn,tmps,assign,body,hy,hRd⟩:=hY A (Under.refl A);have HA:=Lib.hid hA;have HRr:=Lib.hid hR;have HRd:=Lib.hid hRd;have hy0:(0:Int)≤(y:Int):=by omega
  have hy1:(y:Int)≤4000:=by omega
  have hM0:(0:Int)≤(M:Int):=by omega
  have hM8:(M:Int)≤8:=by omega
  have hs0:(0:Int)≤(s:Int):=by omega
  have hsy:(s:Int)≤(y:Int)+1:=by omega
  have hym:(y:Int) < (mn:Int):=by omega
  have hyc:(y:Int)+1≤(c:Int):=by omega
  have hsc:¬ c=s:=by omega
  have hye:((y:Int)+1 - 1)=(y:Int):=by omega
  clear hY hRd hA hBx hRt hRm hR hN4;unfold z0A at HRd hy;simp only at HRd hy;unfold bkRound qQA;simp only[Tryz.f130,Option.getD_some,fA,oC];unfold nW
  gi_wp2
  refine⟨fun h=>absurd h (by decide),?_⟩;refine HRd.out.mono ?_;rintro e A3 (⟨rfl,hj1,hk1'⟩ | ⟨rfl,hx1⟩)
  · have HJ1 := Lib.hid hj1; have HU3 := Lib.hid (HA.out.kept hk1' HRr.out); have HB3 := Lib.hid (HBx.out.kept hk1' HRt.out.1 HRt.out.2); clear hj1 hk1'
    gi_wp2
    exact rA (F:=nW (.func (.yield l) #[] #[]) tb mb s ((M:Int) - 1)) (by rfl) ⟨HJ1.out,HU3.out,HB3.out⟩
  · have HX1 := Lib.hid hx1; clear hx1
    gi_wp2
    exact⟨rfl,rfl,HX1.out⟩
end
section
variable {W0 w : World} {tb mb b off c N g mn mc n : Nat} {L : List Tm}
def BkI(W0:World)(vt vm:Value)(tb mb:Nat)(L:List Tm)(J:List (Nat×Nat×Nat)→World→Prop)(l M:Nat)(a:Act)(A:World):Prop :=
 ∃ pre,pre++nG L M=nG L L.length∧M≤L.length∧q4A W0 vt vm tb mb (starts L M) ((M:Int) - 1) (J pre) (.func (.yield l) #[] #[]) a A
def BkD(J:List (Nat×Nat×Nat)→World→Prop)(Jx:List (Nat×Nat×Nat)→World→Prop)(L:List Tm)(e:Exit)(a:Act)(A:World):Prop :=
 a.defers=[]∧((e = .exit 0∧J (nG L L.length) A)∨(e = .ret∧∃ pre,Jx pre A))
theorem fJA{L:List Tm}{M:Nat}(hM:M < L.length):starts L M < starts L (M+1):=by
 unfold starts;rw[bY hM,List.length_append];have:=bL L[M];omega
theorem cJA{L:List Tm}{M:Nat}(hM:M≤L.length):starts L M≤(qA L).length:=by
 unfold starts;have:=congrArg List.length (jF (L.take M) (L.drop M));rw[List.take_append_drop,List.length_append]at this;omega
theorem rYA {l : Nat} {vt vm : Value} {J : List (Nat × Nat × Nat) → World → Prop} {Jx : List (Nat × Nat × Nat) → World → Prop} (hL : L.length ≤ 8) (hN : (qA L).length + 1 ≤ N) (hNc : N ≤ c) (hN4 : N ≤ 4000) (hb : b < W0.heap.size)
    (hvt:vt = .slice (some ⟨b,off,none⟩) N c) (hvm:vm = .slice (some ⟨g,0,none⟩) mn mc) (hmn:N≤mn) (hg:g < W0.heap.size)
    (hc:∀ M,M < L.length→W0.cell? ⟨g,(starts L (M+1) - 1) * 2,none⟩=some (.int .i64 (starts L M:Int)))
    (hJ:∀ pre A A',J pre A→Under A A'→J pre A')
    (hY : ∀ pre x A, J pre A → pre ++ [x] <+: nG L L.length → YieldAt Fence.wide (n - 1) Tryz.prog l (z0A b off c x) A fun e A' =>
      (e = .returned (.bool true)∧J (pre++[x]) A'∧pOA (fun k=>k < W0.heap.size∨k=tb∨k=mb) A A')∨(e = .returned (.bool false)∧Jx (pre++[x]) A'))
    (m:Nat) (a:Act) (A:World) (h0:BkI W0 vt vm tb mb L J l m a A) :
    (Code.loop bkRound).wpIn Fence.wide n Tryz.prog (BkD J Jx L) a A:=by
  refine wpIn_wide.2 (wp_loop_ghost (BkI W0 vt vm tb mb L J l) m h0 ?_);clear h0;rintro m a A ⟨pre,hpre,hm,Jn,rfl,hj,hU,hBx⟩;refine(wpIn_wide (n:=n)).1 ?_
  cases m with
  | zero =>
    rw[nG,List.append_nil]at hpre;subst hpre;have HJ:=Lib.hid hj;clear hj hY hJ hU hc hBx;unfold bkRound qQA;simp only[Tryz.f130,Option.getD_some,fA,oC];unfold nW;rw[show(((0:Nat):Int) - 1) = -1 by rfl]
    gi_wp2
    exact⟨rfl,.inl ⟨rfl,HJ.out⟩⟩
  | succ m =>
    have hs := fJA hm; have hle := cJA hm; have hpr : pre ++ [(m, starts L m, starts L (m + 1) - starts L m)] <+: nG L L.length := ⟨nG L m, by rw [← hpre, nG, List.append_assoc]; rfl⟩; rw [show (((m + 1 : Nat) : Int) - 1) = (m : Int) by omega]; refine wpIn_mono (rAB (Jd := J (pre ++ [(m, starts L m, starts L (m + 1) - starts L m)])) (Jx := Jx (pre ++ [(m, starts L m, starts L (m + 1) - starts L m)])) (R := fun k => k < W0.heap.size ∨ k = tb ∨ k = mb) (l := l) (n := n) (N := N) (fun k hk => .inl hk) (.inr (.inl rfl)) (.inr (.inr rfl)) hvt hvm (by omega) (by omega) hs hNc hN4 hb (by omega) hg (hc m hm) Jn A hU hBx
      (fun A2 h2=>hY _ _ A2 (hJ _ _ _ hj h2) hpr)) ?_
    rintro e a' A' h
    cases e with
    | normal=>exact⟨m,by omega,_,by rw[← hpre,nG,List.append_assoc];rfl,by omega,h⟩
    | _=>exact⟨h.2.1,.inr ⟨h.1,_,h.2.2⟩⟩
theorem hIA {W0 : World} {x : Nd} (hx : nA x = true) (hlx : L.length = (binds x).length) (hN : (qA L).length + 1 = N) (hNc : N ≤ c) (hN4 : N ≤ 4000) (hU0 : Under W0 w) (hb : b < W0.heap.size)
    (x0:W0.cell? ⟨b,off+(qA L).length * 4,none⟩=some (.int .i64 x.k)) (x1:W0.cell? ⟨b,off+(qA L).length * 4+1,none⟩=some (.int .i64 x.n)) (x2:W0.cell? ⟨b,off+(qA L).length * 4+2,none⟩=some (.int .i64 x.m)) (x3:W0.cell? ⟨b,off+(qA L).length * 4+3,none⟩=some (.string x.s))
    (hS:ShapesAt 0 W0)
    (hT:BoxAt w tb 30 #[.slice (some ⟨b,off,none⟩) N c]) (hMb:BoxAt w mb 122 #[.slice (some ⟨g,0,none⟩) mn mc]) (hmn:N≤mn) (hg:g < W0.heap.size)
    (hc:∀ M,M < L.length→W0.cell? ⟨g,(starts L (M+1) - 1) * 2,none⟩=some (.int .i64 (starts L M:Int))) :
    cAB Fence.wide n Tryz.prog 130 #[.pointer (some ⟨tb,0,none⟩),.pointer (some ⟨mb,0,none⟩)] (z0A b off c) (fun k=>k < W0.heap.size∨k=tb∨k=mb) (nG L L.length) w:=by
  intro l J Jx W hW' hJ hY h0;have hW:=hU0.trans hW';have hL:=gG hx;rw[← hlx]at hL;have HM:=Lib.hid (kGA x W (hS.under hW) hx);rw[← hlx]at HM;have HL:=Lib.hid (rYA (n:=n) (l:=l) (tb:=tb) (mb:=mb) (c:=c) (b:=b) (off:=off) (N:=N) (g:=g) (mn:=mn) (mc:=mc) (L:=L) (W0:=W0) (vt:=.slice (some ⟨b,off,none⟩) N c) (vm:=.slice (some ⟨g,0,none⟩) mn mc) (J:=J) (Jx:=Jx) hL (by omega) hNc hN4 hb rfl rfl hmn hg hc hJ hY L.length);have HBx:=Lib.hid (show BBox tb mb (.slice (some ⟨b,off,none⟩) N c) (.slice (some ⟨g,0,none⟩) mn mc) W from⟨hT.under hW',hMb.under hW'⟩);have HB:=Lib.hid (hT.under hW');have eb:=HB.out.cell 0;have elt:=HB.out.lt;rw[← jA hW hb]at x0 x1 x2 x3;have hbW:=Nat.lt_of_lt_of_le hb hW.size;have HU:=Lib.hid hW;have H0:=Lib.hid h0;have HJ:=Lib.hid hJ;have HSt:=Lib.hid (show starts L L.length=(qA L).length by unfold starts;rw[List.take_length]);obtain⟨z,hz⟩:∃ z,z=(qA L).length:=⟨_,rfl⟩;have HZ:=Lib.hid hz;rw[← hz]at x0 x1 x2 x3;obtain rfl:N=z+1:=by omega
  have hz1:(z:Int)≤4000:=by omega
  have hz0:(0:Int)≤z:=Int.natCast_nonneg _;have hze:((z:Int)+1 - 1)=(z:Int):=by omega
  have hL0:(0:Int)≤(L.length:Int):=Int.natCast_nonneg _;have hL8:(L.length:Int)≤8:=by omega
  clear hJ hY h0 hS hT hMb hc hz hN hlx hL hW hW';unfold ndV at HM;refine callsIn_of_wp Tryz.func130 rfl trivial ?_ rfl;simp only[Tryz.ntmps130,List.size_toArray,List.length_cons,List.length_nil,Nat.reduceAdd,Nat.reduceSub,Array.replicate_succ,Array.replicate_zero,List.push_toArray,List.append_toArray,List.nil_append,List.cons_append]
  gi_wp2
  refine⟨trivial,fun h=>absurd h (by decide),?_⟩;refine(callsIn_wide.2 HM.out).mono ?_;rintro e W2 ⟨rfl,hU2⟩;have HU2:=Lib.hid hU2;clear hU2
  gi_wp2
  refine wpIn_mono (HL.out _ _ ⟨[],by simp,Nat.le_refl _,by rw[HSt.out,← HZ.out];exact rA (F:=nW _ tb mb z ((L.length:Int) - 1)) (by rfl) ⟨HJ.out _ _ _ H0.out HU2.out,HU.out.trans HU2.out,HBx.out.under HU2.out⟩⟩) ?_;rintro e a' A' ⟨hd,(⟨rfl,hb⟩ | ⟨rfl,pre,hpre⟩)⟩
  · simp only[Exit.inBlock,if_pos];exact bodyPost_end (P:=Tryz.prog) (fn:=Tryz.f130) (R:=fun e W'=>(∃ v,e=Ending.returned v)∧(J (nG L L.length) W'∨∃ pre,Jx pre W')) (results_none rfl _ _ _) hd ⟨⟨_,rfl⟩,.inl hb⟩
  · simp only[Exit.inBlock];exact bodyPost_ret (P:=Tryz.prog) (fn:=Tryz.f130) (R:=fun e W'=>(∃ v,e=Ending.returned v)∧(J (nG L L.length) W'∨∃ pre,Jx pre W')) (results_none rfl _ _ _) hd ⟨⟨_,rfl⟩,.inr ⟨pre,hpre⟩⟩
end
end Go.Proofs.YtlnlpdephijcoaaGreatDoor
