/- Part 32 of what the proof rests on. -/
import Derived.Laws.ResultCell
import Derived.Maps.AppendAt
import Derived.Deep.RegionHeld3
import Derived.Test.YtggjbblgoddnjaaGreatDoorM01
import Derived.Test.YtggjbblgoddnjaaGreatDoorM29
import Derived.Test.YtggjbblgoddnjaaGreatDoorM30
import Derived.Test.YtggjbblgoddnjaaGreatDoorM31
set_option linter.unusedSimpArgs false
set_option linter.unusedVariables false
set_option maxRecDepth 100000
set_option maxHeartbeats 4000000
namespace Go.Proofs.YtggjbblgoddnjaaGreatDoor
open Go.Lx Go.RowKit
def rM (s : ByteArray) : Nat → List Dc → Int
  | _,[] => -1
  | i,d::l=>if(d.name.toList==s.toList)=true then i else rM s (i+1) l
def lD(s:ByteArray)(l:List Dc):Option Dc:=l.find? fun d=>d.name.toList==s.toList
theorem nKA{s:ByteArray}{l:List Dc}{k:Nat}(hk:k < l.length):rM s k (l.drop k)=if(l[k].name.toList==s.toList)=true then(k:Int) else rM s (k+1) (l.drop (k+1)):=by
 rw[List.drop_eq_getElem_cons hk];rfl
theorem lW (s : ByteArray) : ∀ (l : List Dc) (i : Nat), (rM s i l = -1 ∧ lD s l = none) ∨ ∃ (k : Nat) (h : k < l.length), rM s i l = ((i + k : Nat) : Int) ∧ lD s l = some l[k]
  | [],_=>.inl ⟨rfl,rfl⟩
  | d :: l, i => by
    by_cases h:(d.name.toList==s.toList)=true
    · exact .inr ⟨0,by simp,by simp[rM,h],by simp[lD,h]⟩
    · rcases lW s l (i + 1) with ⟨h1, h2⟩ | ⟨k, hk, h1, h2⟩
      · exact .inl ⟨by simp only[rM,if_neg h,h1],by unfold lD at *;rw[List.find?_cons_of_neg (p:=fun d:Dc=>d.name.toList==s.toList) h,h2]⟩
      · exact .inr ⟨k+1,by simpa using hk,by simp only[rM,if_neg h,h1];omega,by unfold lD at *;rw[List.find?_cons_of_neg (p:=fun d:Dc=>d.name.toList==s.toList) h,h2];rfl⟩
def uT:Dc:=⟨0,0,⟨#[]⟩,[],[],[]⟩
theorem zWA(w:World):DcV w (.agg dcZ) uT:=⟨_,_,_,rfl,⟨none,0,rfl,Nat.le_refl _,fun _=>rfl,RowArg.nil⟩,⟨none,0,rfl,Nat.le_refl _,fun _=>rfl,RowArg.nil⟩,⟨none,0,[],rfl,Nat.le_refl _,fun _=>rfl,RowArg.nil,Zip.nil _⟩⟩
section
variable {w0 : World}
theorem jLA(l:List Dc)(s:ByteArray){p:Option Addr}{c sb:Nat}(hl:l.length≤100000)(hp:RowsV 6 DcRow w0 p l)(hb:sb < w0.heap.size)(hs:w0.cell? ⟨sb,0,none⟩=some (.string s)) :
 Calls Tryz.prog 42 #[.slice p l.length c,.func (.func 43) #[] #[.pointer (some ⟨sb,0,none⟩)]] w0 fun e w'=>e = .returned (.int .i64 (rM s 0 l))∧Under w0 w':=by
 have HP:=Lib.hid hp;have HS:=Lib.hid hs;have HSb:=Lib.hid hb;have hn0:(0:Int)≤(l.length:Int):=by omega
 have hn9:(l.length:Int)≤100000:=by omega
 clear hp hs hb hl;go_enter Tryz.func42,Tryz.ntmps42;go_wp2;go_loopw [8] (fun i wr=>∃ k:Nat,k≤l.length∧i = .int .i64 k∧rM s 0 l=rM s k (l.drop k)∧Under w0 wr) (fun i _=>l.length - (intOf i).toNat)
 case atStart=>exact⟨0,Nat.zero_le _,rfl,by simp,Under.refl _⟩
 case round =>
   obtain⟨k,hk,rfl,hN,hU⟩:=hrel;have HN:=Lib.hid hN;have HU:=Lib.hid hU;have hk0:(0:Int)≤(k:Int):=by omega
   have hs:=(dA HU.out HSb.out 0).trans HS.out;have hsl:=Nat.lt_of_lt_of_le HSb.out HU.out.size;clear hN hU;by_cases hlt:k < l.length
   · have HC := Lib.hid (nKA (s := s) hlt); obtain ⟨b, off, r, rfl, hb, hrl, hr, hc⟩ := HP.out.at (List.getElem?_eq_getElem hlt) (by decide); obtain ⟨v1, v2, v3, rfl, ⟨p1, c1, rfl, _⟩, ⟨p2, c2, rfl, _⟩, ⟨p3, c3, us3, rfl, _⟩⟩ := hr; have cc0 := hc 0 _ rfl; have cc1 := hc 1 _ rfl; have cc2 := hc 2 _ rfl; have cc3 := hc 3 _ rfl; have cc4 := hc 4 _ rfl; have cc5 := hc 5 _ rfl; simp only [Nat.add_zero, ← Nat.add_assoc] at cc0 cc1 cc2 cc3 cc4 cc5; rw [← dA HU.out hb] at cc0 cc1 cc2 cc3 cc4 cc5; have hb' := Nat.lt_of_lt_of_le hb HU.out.size; have hlt' : (k : Int) < (l.length : Int) := by omega
     clear hc hrl;generalize l[k]=d at *;have HUn:=Lib.hid (fun o=>aA HU.out o)
     cases hx:(d.name.toList==s.toList)
     · rw [hx] at HC; go_wp2; go_roundw
       case rel=>exact⟨k+1,by omega,by go_num,by rw[HN.out,HC.out];rfl,HUn.out _⟩
       case measure=>simp[intOf];omega
     · rw[hx]at HC;go_wp2;go_ret;exact⟨mF (by rw[HN.out,HC.out];rfl),HUn.out _⟩
   · obtain rfl : k = l.length := by omega
     go_wp2;go_ret;exact⟨mF (by rw[HN.out,List.drop_eq_nil_of_le (by omega)];rfl),HU.out⟩
def rQA(w0:World)(s:ByteArray)(l:List Dc)(e:Ending)(w:World):Prop:=∃ v,e = .returned (.tuple #[v,.bool (lD s l).isSome])∧DcV w v ((lD s l).getD uT)∧Under w0 w
theorem jP(l:List Dc)(s:ByteArray){p:Option Addr}{c:Nat}(hl:l.length≤100000)(hd:∀ d∈l,Lite d)(hp:RowsV 6 DcRow w0 p l):Calls Tryz.prog 16 #[.slice p l.length c,.string s] w0 (rQA w0 s l):=by
 have HB1:=Lib.hid ((qA w0 #[.string s] 9).alloc (.cells dcZ 33));have HU:=Lib.hid (aA (aA (Under.refl w0) (.cells #[.string s] 9)) (.cells dcZ 33));have HB2:=Lib.hid (show BoxAt ((w0.alloc (.cells #[.string s] 9)).alloc (.cells dcZ 33)) (w0.heap.size+1) 33 dcZ by have:=qA (w0.alloc (.cells #[.string s] 9)) dcZ 33;simpa using this);have HI:=Lib.hid (jLA (c:=c) l s hl (RowsV.under DcRow.mono hp HU.out) HB1.out.lt (HB1.out.cell 0));have HP:=Lib.hid hp;have HD:=Lib.hid hd;have HCs:=Lib.hid (lW s l 0);have hn9:(l.length:Int)≤100000:=by omega
 have hn0:(0:Int)≤(l.length:Int):=by omega
 clear hp hd hl;go_enter Tryz.func16,Tryz.ntmps16;go_wp2_with fail;refine HI.out.mono ?_;rintro e w1 ⟨rfl,hU1⟩;have HU1:=Lib.hid (HU.out.trans hU1);have HB:=Lib.hid (HB2.out.under hU1);clear hU1 HI HB1 HB2;have d0:=HB.out.cell 0;have d1:=HB.out.cell 1;have d2:=HB.out.cell 2;have d3:=HB.out.cell 3;have d4:=HB.out.cell 4;have d5:=HB.out.cell 5;have g0:=HB.out.free 0;have g1:=HB.out.free 1;have g2:=HB.out.free 2;have g3:=HB.out.free 3;have g4:=HB.out.free 4;have g5:=HB.out.free 5;have dl:=HB.out.lt;rcases HCs.out with⟨h1,h2⟩ | ⟨k,hk,h1,h2⟩
 · rw[h1];have H2:=Lib.hid h2;clear h1 h2 HCs;go_wp2;obtain⟨wf,hwf⟩:∃ wf,wf=(((((w1.setCell ⟨w0.heap.size+1,0,none⟩ (.int .i64 0)).setCell ⟨w0.heap.size+1,1,none⟩ (.int .i64 0)).setCell ⟨w0.heap.size+1,2,none⟩ (.string ⟨#[]⟩)).setCell ⟨w0.heap.size+1,3,none⟩ (.slice none 0 0)).setCell ⟨w0.heap.size+1,4,none⟩ (.slice none 0 0)).setCell ⟨w0.heap.size+1,5,none⟩ (.slice none 0 0):=⟨_,rfl⟩;have HF:=Lib.hid (show BoxAt wf (w0.heap.size+1) 33 #[.int .i64 0,.int .i64 0,.string ⟨#[]⟩,.slice none 0 0,.slice none 0 0,.slice none 0 0] by rw[hwf];exact(((((HB.out.set 0 _).set 1 _).set 2 _).set 3 _).set 4 _).set 5 _);have HX:=Lib.hid (show Ch (fun b=>b=w0.heap.size+1) w1 wf by rw[hwf];exact((((((Ch.refl (C:=fun b=>b=w0.heap.size+1) w1).set (fun _=>rfl) _ _).set (fun _=>rfl) _ _).set (fun _=>rfl) _ _).set (fun _=>rfl) _ _).set (fun _=>rfl) _ _).set (fun _=>rfl) _ _);rw[← hwf];clear hwf d0 d1 d2 d3 d4 d5 g0 g1 g2 g3 g4 g5;have e0:=HF.out.cell 0;have e1:=HF.out.cell 1;have e2:=HF.out.cell 2;have e3:=HF.out.cell 3;have e4:=HF.out.cell 4;have e5:=HF.out.cell 5;refine bodyPost_ret (v:=.tuple #[.agg #[.int .i64 0,.int .i64 0,.string ⟨#[]⟩,.slice none 0 0,.slice none 0 0,.slice none 0 0],.bool _]) ((results_cell_tmp rfl _ _ _).trans (by simp[go_sem,e0,e1,e2,e3,e4,e5];rfl)) rfl ?_;exact⟨_,by rw[H2.out];rfl,by rw[H2.out];exact zWA _,uK HU1.out HX.out fun b hb=>by omega⟩
 · rw [h1, Nat.zero_add]; have H2 := Lib.hid h2; have hk0 : (0 : Int) ≤ (k : Int) := by omega
   have hk9:(k:Int) < (l.length:Int):=by omega
   obtain⟨b,off,r,rfl,hb,hrl,hr,hc⟩:=HP.out.at (List.getElem?_eq_getElem hk) (by decide);have HR:=Lib.hid (DcRow.val hr);obtain⟨v1,v2,v3,rfl,⟨p1,c1,rfl,_⟩,⟨p2,c2,rfl,_⟩,⟨p3,c3,us3,rfl,_⟩⟩:=hr;have cc0:=hc 0 _ rfl;have cc1:=hc 1 _ rfl;have cc2:=hc 2 _ rfl;have cc3:=hc 3 _ rfl;have cc4:=hc 4 _ rfl;have cc5:=hc 5 _ rfl;simp only[Nat.add_zero,← Nat.add_assoc]at cc0 cc1 cc2 cc3 cc4 cc5;rw[← dA HU1.out hb]at cc0 cc1 cc2 cc3 cc4 cc5;have hb':=Nat.lt_of_lt_of_le hb HU1.out.size;have HC:=Lib.hid (jCA (w0:=w1) l[k] (HD.out _ (List.getElem_mem hk)) (DcV.mono _ _ _ _ HU1.out HR.out));clear h1 h2 HCs hc hrl;generalize l[k]=d at *;go_wp2_with fail;refine HC.out.mono ?_;rintro e w2 ⟨v2,rfl,hv2,hU2⟩;obtain⟨q,k1,q',k2,r',k3,rfl⟩:=hv2.agg;have HV:=Lib.hid hv2;have HB:=Lib.hid (HB.out.under hU2);have HS:=Lib.hid HB.out.lt;have HL:=Lib.hid (show w0.heap.size+1 < w1.heap.size from dl);have HU2:=Lib.hid (HU1.out.trans hU2);clear hv2 hU2 HC cc0 cc1 cc2 cc3 cc4 cc5 hb' d0 d1 d2 d3 d4 d5 g0 g1 g2 g3 g4 g5 dl;have d0:=HB.out.cell 0;have d1:=HB.out.cell 1;have d2:=HB.out.cell 2;have d3:=HB.out.cell 3;have d4:=HB.out.cell 4;have d5:=HB.out.cell 5;have g0:=HB.out.free 0;have g1:=HB.out.free 1;have g2:=HB.out.free 2;have g3:=HB.out.free 3;have g4:=HB.out.free 4;have g5:=HB.out.free 5;have dl:=HB.out.lt;go_wp2;obtain⟨wf,hwf⟩:∃ wf,wf=(((((w2.setCell ⟨w0.heap.size+1,0,none⟩ (.int .i64 d.kind)).setCell ⟨w0.heap.size+1,1,none⟩ (.int .i64 d.level)).setCell ⟨w0.heap.size+1,2,none⟩ (.string d.name)).setCell ⟨w0.heap.size+1,3,none⟩ (.slice q d.type.length k1)).setCell ⟨w0.heap.size+1,4,none⟩ (.slice q' d.body.length k2)).setCell ⟨w0.heap.size+1,5,none⟩ (.slice r' d.cons.length k3):=⟨_,rfl⟩;have HF:=Lib.hid (show BoxAt wf (w0.heap.size+1) 33 #[.int .i64 d.kind,.int .i64 d.level,.string d.name,.slice q d.type.length k1,.slice q' d.body.length k2,.slice r' d.cons.length k3] by rw[hwf];exact(((((HB.out.set 0 _).set 1 _).set 2 _).set 3 _).set 4 _).set 5 _);have HX:=Lib.hid (show Ch (fun b=>b=w0.heap.size+1) w2 wf by rw[hwf];exact((((((Ch.refl (C:=fun b=>b=w0.heap.size+1) w2).set (fun _=>rfl) _ _).set (fun _=>rfl) _ _).set (fun _=>rfl) _ _).set (fun _=>rfl) _ _).set (fun _=>rfl) _ _).set (fun _=>rfl) _ _);rw[← hwf];clear hwf d0 d1 d2 d3 d4 d5 g0 g1 g2 g3 g4 g5;have e0:=HF.out.cell 0;have e1:=HF.out.cell 1;have e2:=HF.out.cell 2;have e3:=HF.out.cell 3;have e4:=HF.out.cell 4;have e5:=HF.out.cell 5;refine bodyPost_ret (v:=.tuple #[.agg #[.int .i64 d.kind,.int .i64 d.level,.string d.name,.slice q d.type.length k1,.slice q' d.body.length k2,.slice r' d.cons.length k3],.bool _]) ((results_cell_tmp rfl _ _ _).trans (by simp[go_sem,e0,e1,e2,e3,e4,e5];rfl)) rfl ?_;exact⟨_,by rw[H2.out];rfl,by rw[H2.out];exact(HV.out.ch HX.out fun b hb=>by have:=HL.out;omega).val,uK HU2.out HX.out fun b hb=>by omega⟩
end
def knC(l:List Dc):List ByteArray:=(l.filter fun d=>d.kind==1||d.kind==2).map (·.name)
def knD(l:List Dc):List ByteArray:=(l.filter fun d=>d.kind==3).map (·.name)
theorem oPA(l:List Dc){k:Nat}(hk:k < l.length):knC (l.take (k+1))=knC (l.take k)++(if(l[k].kind==1||l[k].kind==2)=true then [l[k].name] else [])∧knD (l.take (k+1))=knD (l.take k)++(if(l[k].kind==3)=true then [l[k].name] else []):=by
 rw[List.take_succ_eq_append_getElem hk];unfold knC knD;simp only[List.filter_append,List.map_append,List.filter_cons,List.filter_nil];constructor<;>split<;>simp[*]
theorem yN(l:List Dc):(knC l).length≤l.length∧(knD l).length≤l.length:=by
 unfold knC knD;simp only[List.length_map];exact⟨List.length_filter_le _ _,List.length_filter_le _ _⟩
structure TwoT (B:Nat) (w:World) (vc vd:Value) (cs ds:List ByteArray):Prop where
 one:w.ownsRow B 9 1 vc cs.length (cs.map .string)
 two:w.ownsRow B 9 1 vd ds.length (ds.map .string)
 ne:vc.ownBlock=none∨vc.ownBlock≠vd.ownBlock
structure KnR (T:TypeId) (w0:World) (l:List Dc) (k:Nat) (wr:World):Prop where
 ex:∃ vc vd,BoxAt wr (w0.heap.size+1) T #[vc,vd]∧TwoT (w0.heap.size+2) wr vc vd (knC (l.take k)) (knD (l.take k))
 res:BoxAt wr w0.heap.size T #[.slice none 0 0,.slice none 0 0]
 und:Under w0 wr
theorem KnR.under{T:TypeId}{w0:World}{l:List Dc}{k:Nat}{w w':World}(h:KnR T w0 l k w)(hU:Under w w'):KnR T w0 l k w':=by
 obtain⟨⟨vc,vd,h1,h2⟩,h3,h4⟩:=h;exact⟨⟨vc,vd,h1.under hU,dC h2.one hU,dC h2.two hU,h2.ne⟩,h3.under hU,h4.trans hU⟩
def i1A(w0:World)(l:List Dc)(e:Ending)(w:World):Prop:=∃ vc vd,e = .returned (.agg #[vc,vd])∧TwoT w0.heap.size w vc vd (knC l) (knD l)∧Under w0 w
theorem Tryz.infoStrK:(Tryz.prog.info? 9).map (fun i=>(i.zero,i.size,i.bytes))=some (some (.string ⟨#[]⟩),1,16):=by kernel_rfl
theorem KnR.same{T:TypeId}{w0:World}{l:List Dc}{k k':Nat}{w:World}(h1:knC (l.take k')=knC (l.take k)++[])(h2:knD (l.take k')=knD (l.take k)++[])(h:KnR T w0 l k w):KnR T w0 l k' w:=by
 obtain⟨⟨vc,vd,a,b⟩,c,d⟩:=h;rw[List.append_nil]at h1 h2;exact⟨⟨vc,vd,a,by rw[h1,h2];exact b⟩,c,d⟩
theorem uG{a b:Option Nat}(h:a=none∨a≠b):b=none∨b≠a:=by
 rcases h with rfl | h
 · cases b with
   | none=>exact .inl rfl
   | some x=>exact .inr fun e=>by cases e
 · exact .inr fun e=>h e.symm
theorem lQ{T:TypeId}{w0 w:World}{l:List Dc}{k:Nat}{vc vd:Value}{cs ds:List ByteArray}(hb:BoxAt w (w0.heap.size+1) T #[vc,vd])(hr:BoxAt w w0.heap.size T #[.slice none 0 0,.slice none 0 0])(hU:Under w0 w)(h1:knC (l.take k)=cs)(h2:knD (l.take k)=ds)(hc:w.ownsRow (w0.heap.size+2) 9 1 vc cs.length (cs.map .string))(hd:w.ownsRow (w0.heap.size+2) 9 1 vd ds.length (ds.map .string))(hn:vc.ownBlock=none∨vc.ownBlock≠vd.ownBlock):KnR T w0 l k w:=by
 subst h1 h2;exact⟨⟨vc,vd,hb,hc,hd,hn⟩,hr,hU⟩
section
variable {w0 : World}
theorem bT(l:List Dc){p:Option Addr}{c:Nat}(hl:l.length≤100000)(hp:RowsV 6 DcRow w0 p l):Calls Tryz.prog 18 #[.slice p l.length c] w0 (i1A w0 l):=by
 obtain⟨i0,hi,hz0,hz1,hz2⟩:=info_parts Tryz.infoStrK;have HP:=Lib.hid hp;have HL:=Lib.hid hl;have hn9:(l.length:Int)≤100000:=by omega
 have hn0:(0:Int)≤(l.length:Int):=by omega
 clear hp hl; go_enter Tryz.func18, Tryz.ntmps18; go_wp2; have HK0 := Lib.hid (show KnR 52 w0 l 0 ((w0.alloc (.cells #[.slice none 0 0, .slice none 0 0] 52)).alloc (.cells #[.slice none 0 0, .slice none 0 0] 52)) from by
   have hb:=qA (w0.alloc (.cells #[.slice none 0 0,.slice none 0 0] 52)) #[.slice none 0 0,.slice none 0 0] 52;exact⟨⟨_,_,by simpa using hb,World.ownsRow_nil _ _ _ _,World.ownsRow_nil _ _ _ _,.inl rfl⟩,(qA w0 _ _).alloc _,aA (aA (Under.refl w0) _) _⟩)
 generalize (w0.alloc (.cells #[.slice none 0 0,.slice none 0 0] 52)).alloc (.cells #[.slice none 0 0,.slice none 0 0] 52)=w1 at *;go_loopw [8] (fun i wr=>∃ k:Nat,k≤l.length∧i = .int .i64 k∧KnR 52 w0 l k wr) (fun i _=>l.length - (intOf i).toNat)
 case atStart=>exact⟨0,Nat.zero_le _,rfl,HK0.out⟩
 case round =>
   obtain⟨k,hk,rfl,hK⟩:=hrel;have HK:=Lib.hid hK;have hk0:(0:Int)≤(k:Int):=by omega
   by_cases hlt:k < l.length
   · have HN := Lib.hid (oPA l hlt); obtain ⟨b, off, r, rfl, hb, hrl, hr, hc⟩ := HP.out.at (List.getElem?_eq_getElem hlt) (by decide); obtain ⟨v1, v2, v3, rfl, ⟨p1, c1, rfl, _⟩, ⟨p2, c2, rfl, _⟩, ⟨p3, c3, us3, rfl, _⟩⟩ := hr; have cc0 := hc 0 _ rfl; have cc1 := hc 1 _ rfl; have cc2 := hc 2 _ rfl; have cc3 := hc 3 _ rfl; have cc4 := hc 4 _ rfl; have cc5 := hc 5 _ rfl; simp only [Nat.add_zero, ← Nat.add_assoc] at cc0 cc1 cc2 cc3 cc4 cc5; rw [← dA hK.und hb] at cc0 cc1 cc2 cc3 cc4 cc5; have hb' := Nat.lt_of_lt_of_le hb hK.und.size; have hlt' : (k : Int) < (l.length : Int) := by omega
     clear hc hrl hK;generalize l[k]=d at *;obtain⟨⟨vc,vd,hBn,hT⟩,hR,hUr⟩:=HK.out;have HKd:=Lib.hid (fun o=>HK.out.under (aA (Under.refl _) o));have hlc:=(yN (l.take k)).1;have hld:=(yN (l.take k)).2;rw[List.length_take]at hlc hld;have hl8:=HL.out;have hlc9:(knC (l.take k)).length≤100000:=by omega
     have hld9:(knD (l.take k)).length≤100000:=by omega
     have HC:=Lib.hid hT.one;have HD:=Lib.hid hT.two;have HNe:=Lib.hid hT.ne;obtain⟨qc,kc,rfl,_,_⟩:=RowArg.of_own hT.one;obtain⟨qd,kd,rfl,_,_⟩:=RowArg.of_own hT.two;have HBn:=Lib.hid hBn;have HRs:=Lib.hid hR;have HUr:=Lib.hid hUr;have n0:=HBn.out.cell 0;have n1:=HBn.out.cell 1;have nl:=HBn.out.lt;have HUs:=Lib.hid hUr.size;clear hBn hR hUr hT hlc hld hl8
     cases h1:(d.kind==1)
     · cases h2 : (d.kind == 2)
       · cases h3 : (d.kind == 3)
         · rw [h1, h2, h3] at HN; go_wp2; go_roundw
           case rel=>exact⟨k+1,by omega,by go_num,KnR.same HN.out.1 HN.out.2 (HKd.out _)⟩
           case measure=>simp[intOf];omega
         · rw [h1, h2, h3] at HN; generalize knC (l.take k) = cs at *; generalize knD (l.take k) = ds at *; go_wp2_with (at_builtin; refine wpList_append_own_at _ rfl _ _ 50 rfl (w0.heap.size + 2) 9 i0 _ 1 16 Tryz.underlying50 hi hz0 hz1 hz2 rfl (by decide) _ _ _ rfl ((HD.out.alloc _).alloc _) ⟨wr.heap.size + 1, 0, none⟩ 1 1 [.string d.name] rfl rfl (by intro j u hj; rcases j with _ | j <;> simp at hj; subst hj; simp [Addr.add]) (fun u hu => by simp at hu; subst hu; rfl) (by simp only [maxLen]; omega) (by omega) (by have := HBn.out.lt; simp; omega) ?_); intro v' w6 hown hgrow hnil hat; have HAs := Lib.hid hown; have hbk := fun g e => (vB HD.out (g := g) e).1
           have HBs := Lib.hid (((HBn.out.alloc _).alloc _).grown hgrow (fun e => by have := hbk _ e.symm; omega)); have HRe := Lib.hid (((HRs.out.alloc _).alloc _).grown hgrow (fun e => by have := hbk _ e.symm; omega)); have HOs := Lib.hid (oC ((HC.out.alloc _).alloc _) hgrow (HNe.out)); have HUe := Lib.hid (rA (aA (aA HUr.out _) _) hgrow (fun g e => by have := hbk _ e; omega)); have hns := fun (h : (.slice qd ds.length kd : Value).ownBlock = none ∨ (.slice qd ds.length kd : Value).ownBlock ≠ (.slice qc cs.length kc : Value).ownBlock) => (show v'.ownBlock = none ∨ v'.ownBlock ≠ (.slice qc cs.length kc : Value).ownBlock by
             rcases hat with e | e
             · rw[e];exact h
             · right;rw[e];intro h;have:=(vB HC.out h.symm).2;omega)
           obtain⟨q',k',rfl,_,_⟩:=RowArg.of_own hown;have HNs:=Lib.hid (hns (uG HNe.out));clear hown hgrow hat hnil hbk hns n0 n1 nl;have n0:=HBs.out.cell 0;have n1:=HBs.out.cell 1;have f0:=HBs.out.free 0;have f1:=HBs.out.free 1;have nl:=HBs.out.lt;go_wp2;go_roundw
           case rel=>exact⟨k+1,by omega,by go_num,lQ (HBs.out.set 1 _) (HRe.out.other (by omega) _ _) (uA HUe.out (by omega) _ _) HN.out.1 HN.out.2 (by simpa using yB HOs.out (gB HBs.out HOs.out (by decide)) _ _) (by simpa using yB HAs.out (gB HBs.out HAs.out (by decide)) _ _) (uG HNs.out)⟩
           case measure=>simp[intOf];omega
       · rw [h1, h2, show (d.kind == 3) = false from by simp at h2 ⊢; omega] at HN; generalize knC (l.take k) = cs at *; generalize knD (l.take k) = ds at *; go_wp2_with (at_builtin; refine wpList_append_own_at _ rfl _ _ 50 rfl (w0.heap.size + 2) 9 i0 _ 1 16 Tryz.underlying50 hi hz0 hz1 hz2 rfl (by decide) _ _ _ rfl ((HC.out.alloc _).alloc _) ⟨wr.heap.size + 1, 0, none⟩ 1 1 [.string d.name] rfl rfl (by intro j u hj; rcases j with _ | j <;> simp at hj; subst hj; simp [Addr.add]) (fun u hu => by simp at hu; subst hu; rfl) (by simp only [maxLen]; omega) (by omega) (by have := HBn.out.lt; simp; omega) ?_); intro v' w6 hown hgrow hnil hat; have HAs := Lib.hid hown; have hbk := fun g e => (vB HC.out (g := g) e).1
         have HBs := Lib.hid (((HBn.out.alloc _).alloc _).grown hgrow (fun e => by have := hbk _ e.symm; omega)); have HRe := Lib.hid (((HRs.out.alloc _).alloc _).grown hgrow (fun e => by have := hbk _ e.symm; omega)); have HOs := Lib.hid (oC ((HD.out.alloc _).alloc _) hgrow (uG HNe.out)); have HUe := Lib.hid (rA (aA (aA HUr.out _) _) hgrow (fun g e => by have := hbk _ e; omega)); have hns := fun (h : (.slice qc cs.length kc : Value).ownBlock = none ∨ (.slice qc cs.length kc : Value).ownBlock ≠ (.slice qd ds.length kd : Value).ownBlock) => (show v'.ownBlock = none ∨ v'.ownBlock ≠ (.slice qd ds.length kd : Value).ownBlock by
           rcases hat with e | e
           · rw[e];exact h
           · right;rw[e];intro h;have:=(vB HD.out h.symm).2;omega)
         obtain⟨q',k',rfl,_,_⟩:=RowArg.of_own hown;have HNs:=Lib.hid (hns (HNe.out));clear hown hgrow hat hnil hbk hns n0 n1 nl;have n0:=HBs.out.cell 0;have n1:=HBs.out.cell 1;have f0:=HBs.out.free 0;have f1:=HBs.out.free 1;have nl:=HBs.out.lt;go_wp2;go_roundw
         case rel=>exact⟨k+1,by omega,by go_num,lQ (HBs.out.set 0 _) (HRe.out.other (by omega) _ _) (uA HUe.out (by omega) _ _) HN.out.1 HN.out.2 (by simpa using yB HAs.out (gB HBs.out HAs.out (by decide)) _ _) (by simpa using yB HOs.out (gB HBs.out HOs.out (by decide)) _ _) HNs.out⟩
         case measure=>simp[intOf];omega
     · rw [h1, show (d.kind == 3) = false from by simp at h1 ⊢; omega] at HN; generalize knC (l.take k) = cs at *; generalize knD (l.take k) = ds at *; go_wp2_with (at_builtin; refine wpList_append_own_at _ rfl _ _ 50 rfl (w0.heap.size + 2) 9 i0 _ 1 16 Tryz.underlying50 hi hz0 hz1 hz2 rfl (by decide) _ _ _ rfl ((HC.out.alloc _).alloc _) ⟨wr.heap.size + 1, 0, none⟩ 1 1 [.string d.name] rfl rfl (by intro j u hj; rcases j with _ | j <;> simp at hj; subst hj; simp [Addr.add]) (fun u hu => by simp at hu; subst hu; rfl) (by simp only [maxLen]; omega) (by omega) (by have := HBn.out.lt; simp; omega) ?_); intro v' w6 hown hgrow hnil hat; have HAs := Lib.hid hown; have hbk := fun g e => (vB HC.out (g := g) e).1
       have HBs := Lib.hid (((HBn.out.alloc _).alloc _).grown hgrow (fun e => by have := hbk _ e.symm; omega)); have HRe := Lib.hid (((HRs.out.alloc _).alloc _).grown hgrow (fun e => by have := hbk _ e.symm; omega)); have HOs := Lib.hid (oC ((HD.out.alloc _).alloc _) hgrow (uG HNe.out)); have HUe := Lib.hid (rA (aA (aA HUr.out _) _) hgrow (fun g e => by have := hbk _ e; omega)); have hns := fun (h : (.slice qc cs.length kc : Value).ownBlock = none ∨ (.slice qc cs.length kc : Value).ownBlock ≠ (.slice qd ds.length kd : Value).ownBlock) => (show v'.ownBlock = none ∨ v'.ownBlock ≠ (.slice qd ds.length kd : Value).ownBlock by
         rcases hat with e | e
         · rw[e];exact h
         · right;rw[e];intro h;have:=(vB HD.out h.symm).2;omega)
       obtain⟨q',k',rfl,_,_⟩:=RowArg.of_own hown;have HNs:=Lib.hid (hns (HNe.out));clear hown hgrow hat hnil hbk hns n0 n1 nl;have n0:=HBs.out.cell 0;have n1:=HBs.out.cell 1;have f0:=HBs.out.free 0;have f1:=HBs.out.free 1;have nl:=HBs.out.lt;go_wp2;go_roundw
       case rel=>exact⟨k+1,by omega,by go_num,lQ (HBs.out.set 0 _) (HRe.out.other (by omega) _ _) (uA HUe.out (by omega) _ _) HN.out.1 HN.out.2 (by simpa using yB HAs.out (gB HBs.out HAs.out (by decide)) _ _) (by simpa using yB HOs.out (gB HBs.out HOs.out (by decide)) _ _) HNs.out⟩
       case measure=>simp[intOf];omega
   · obtain rfl : k = l.length := by omega
     obtain⟨⟨vc,vd,hBn,hT⟩,hR,hUr⟩:=HK.out;rw[List.take_length]at hT;obtain⟨qc,kc,rfl,_,_⟩:=RowArg.of_own hT.one;obtain⟨qd,kd,rfl,_,_⟩:=RowArg.of_own hT.two;have HT:=Lib.hid hT;have HR:=Lib.hid hR;have HU:=Lib.hid hUr;have n0:=hBn.cell 0;have n1:=hBn.cell 1;have nl:=hBn.lt;have r0:=hR.cell 0;have r1:=hR.cell 1;have g0:=hR.free 0;have g1:=hR.free 1;have rl:=hR.lt;clear hBn hT hR hUr;go_wp2;obtain⟨wf,hwf⟩:∃ wf,wf=(wr.setCell ⟨w0.heap.size,0,none⟩ (.slice qc (knC l).length kc)).setCell ⟨w0.heap.size,1,none⟩ (.slice qd (knD l).length kd):=⟨_,rfl⟩;have HF:=Lib.hid (show BoxAt wf w0.heap.size 52 #[.slice qc (knC l).length kc,.slice qd (knD l).length kd] by rw[hwf];exact(HR.out.set 0 _).set 1 _);have HC:=Lib.hid (show Ch (fun b=>b=w0.heap.size) wr wf by rw[hwf];exact((Ch.refl (C:=fun b=>b=w0.heap.size) wr).set (fun _=>rfl) _ _).set (fun _=>rfl) _ _);rw[← hwf];clear hwf n0 n1 r0 r1 g0 g1;have e0:=HF.out.cell 0;have e1:=HF.out.cell 1;refine bodyPost_ret (v:=.agg #[.slice qc (knC l).length kc,.slice qd (knD l).length kd]) ((oO rfl _ _ _).trans (by simp[go_sem,e0,e1])) rfl ⟨_,_,rfl,⟨oD (qO HT.out.one HC.out fun g hg hc=>by have:=(vB HT.out.one hg).1;omega) (by omega),oD (qO HT.out.two HC.out fun g hg hc=>by have:=(vB HT.out.two hg).1;omega) (by omega),HT.out.ne⟩,uK HU.out HC.out fun b hb=>by omega⟩
end
def tZA(cs ds:List ByteArray)(x:Nd):Bool:=(x.k==1 && !hasB cs x.s)||((x.k==25||x.k==26||x.k==27) && !hasB ds x.s)
def opN (cs ds : List ByteArray) : List Nd → Option ByteArray
  | []=>none
  | x::t=>if tZA cs ds x=true then some x.s else opN cs ds t
def opM(o r:Option ByteArray):Option ByteArray:=match o with
 | some s=>some s
 | none=>r
def opT (cs ds : List ByteArray) : List (List Nd) → Option ByteArray
  | []=>none
  | t::ts=>opM (opN cs ds t) (opT cs ds ts)
def mI(l:List Dc)(d:Dc):List ByteArray:=knD l++(if(d.kind==3)=true then [d.name] else [])
def bG(l:List Dc)(d:Dc):Option ByteArray:=opT (knC l) (mI l d) (nC d)
theorem oKA{cs ds:List ByteArray}{ts:List (List Nd)}{k:Nat}(h:k < ts.length):opT cs ds (ts.drop k)=opM (opN cs ds ts[k]) (opT cs ds (ts.drop (k+1))):=by
 rw[List.drop_eq_getElem_cons h];rfl
theorem vKA{cs ds:List ByteArray}{t:List Nd}{j:Nat}(h:j < t.length):opN cs ds (t.drop j)=if tZA cs ds t[j]=true then some t[j].s else opN cs ds (t.drop (j+1)):=by
 rw[List.drop_eq_getElem_cons h];rfl
def zVA(w0:World)(l:List Dc)(d:Dc)(e:Ending)(w:World):Prop:=e = .returned (.tuple #[.string ((bG l d).getD ⟨#[]⟩),.bool (bG l d).isSome])∧Under w0 w
theorem rJA(l:List Dc)(d:Dc):(mI l d).length≤l.length+1:=by
 unfold mI;have:=(yN l).2
 split<;>simp<;>omega
def eO : Nat → List (List (List Nd)) → Int
  | _,[] => -1
  | i,c::l=>if 6 < c.length then i else eO (i+1) l
def fJ(l:List (List (List Nd))):Bool:=l.any fun c=>decide (6 < c.length)
theorem gKA{l:List (List (List Nd))}{k:Nat}(hk:k < l.length):eO k (l.drop k)=if 6 < l[k].length then(k:Int) else eO (k+1) (l.drop (k+1)):=by
 rw[List.drop_eq_getElem_cons hk];rfl
theorem cOA:∀(l:List (List (List Nd))) (i:Nat),decide (0≤eO i l)=fJ l:=by
 intro l
 induction l with
 | nil=>intro i;simp[eO,fJ]
 | cons n l ih =>
   intro i;have e:eO i (n::l)=if 6 < n.length then(i:Int) else eO (i+1) l:=rfl
   by_cases h:6 < n.length
   · simp only[e,fJ,List.any_cons,h];simp
   · simp only[e,if_neg h,ih];simp[fJ,h]
section
variable {w0 : World}
theorem bEA(l:List (List (List Nd))){v:Value}(hl:l.length≤5864062014634)(hv:ConsV w0 v l) :
 Calls Tryz.prog 80 #[v,.func (.func 46) #[] #[]] w0 fun e w'=>e = .returned (.int .i64 (eO 0 l))∧w0=w':=by
 obtain⟨p,c,vs,rfl,_,_,hp,hz⟩:=hv;have HP:=Lib.hid hp;have HZ:=Lib.hid hz;clear hp hz;go_enter Tryz.func80,Tryz.ntmps80;go_wp2
 go_loop [8] (fun i=>∃ k:Nat,k≤l.length∧i = .int .i64 k∧eO 0 l=eO k (l.drop k)) (fun i=>l.length - (intOf i).toNat)
 case atStart=>exact⟨0,Nat.zero_le _,rfl,by simp⟩
 case round =>
   obtain⟨k,hk,rfl,hN⟩:=hrel;have HN:=Lib.hid hN;clear hN;by_cases hlt:k < l.length
   · have hc := gKA hlt; have HC := Lib.hid hc; clear hc; obtain ⟨u, hu, q, c', us, rfl, _⟩ := HZ.out.at (List.getElem?_eq_getElem hlt); obtain ⟨b, off, rfl, hb, hcs⟩ := HP.out (fun e => by rw [e] at hu; simp at hu); have cc := hcs k _ hu; clear hcs hu; generalize l[k].length = n at *; by_cases h : 6 < n
     · have h' : (6 : Int) < (n : Int) := by omega
       have H:=Lib.hid h;clear h;go_wp2;go_ret;exact⟨mF (by rw[HN.out,HC.out,if_pos H.out]),rfl⟩
     · have h' : ¬ (6 : Int) < (n : Int) := by omega
       have H:=Lib.hid h;clear h;go_wp2
       go_round
       case rel=>exact⟨k+1,by omega,by go_num,by rw[HN.out,HC.out,if_neg H.out]⟩
       case measure=>simp[intOf];omega
   · go_wp2;go_ret;exact⟨mF (by rw[HN.out,List.drop_eq_nil_of_le (by omega)];rfl),rfl⟩
theorem wKA(l:List (List (List Nd))){v:Value}(hl:l.length≤5864062014634)(hv:ConsV w0 v l) :
 Calls Tryz.prog 45 #[v,.func (.func 46) #[] #[]] w0 fun e w'=>e = .returned (.bool (fJ l))∧w0=w':=by
 have HB:=Lib.hid (cOA l 0);have HI:=Lib.hid (bEA l hl hv);obtain⟨p,c,vs,rfl,_⟩:=hv;go_enter Tryz.func45,Tryz.ntmps45;go_wp2_with fail;refine HI.out.mono ?_;rintro e w' ⟨rfl,rfl⟩;go_wp2;go_ret;exact⟨kH HB.out,rfl⟩
end
noncomputable def r4:Code:=match Tryz.f20.body with
 | some (.seq _ (.seq _ (.seq _ (.seq _ (.seq c _)))))=>c
 | _=>.skip
theorem rMA {w1 w2 w3 w4 w5 w6 w7 w8 w9 : World} {v1 v2 v3 v4 v5 v6 v7 v8 : Value} {r1 r2 r3 r4 r5 r6 r7 r8 : Int} {T : TypeId}
    (h1:StepOk w1 v1 r1) (u1:Under w1 w2) (u2:Under w2 w3) (h2:StepOk w3 v2 r2) (u3:Under w3 w4) (h3:StepOk w4 v3 r3) (u4:Under w4 w5) (h4:StepOk w5 v4 r4) (u5:Under w5 w6) (h5:StepOk w6 v5 r5)
    (u6:Under w6 w7) (h6:StepOk w7 v6 r6) (u7:Under w7 w8) (h7:StepOk w8 v7 r7) (u8:Under w8 w9) (h8:StepOk w9 v8 r8) :
    Calls Tryz.prog 47 #[.slice (some ⟨w9.heap.size,0,none⟩) 8 8] (w9.alloc (.cells #[v1,v2,v3,v4,v5,v6,v7,v8] T)) fun e w=>e = .returned (.int .i64 (kD [r1,r2,r3,r4,r5,r6,r7,r8]))∧Under (w9.alloc (.cells #[v1,v2,v3,v4,v5,v6,v7,v8] T)) w:=by
  have hU:=aA (Under.refl w9) (.cells #[v1,v2,v3,v4,v5,v6,v7,v8] T);have a8:=h8.under hU;have a7:=h7.under (u8.trans hU);have a6:=h6.under (u7.trans (u8.trans hU));have a5:=h5.under (u6.trans (u7.trans (u8.trans hU)));have a4:=h4.under (u5.trans (u6.trans (u7.trans (u8.trans hU))));have a3:=h3.under (u4.trans (u5.trans (u6.trans (u7.trans (u8.trans hU)))));have a2:=h2.under (u3.trans (u4.trans (u5.trans (u6.trans (u7.trans (u8.trans hU))))));have a1:=h1.under (u1.trans (u2.trans (u3.trans (u4.trans (u5.trans (u6.trans (u7.trans (u8.trans hU))))))));refine nFA (w0:=w9.alloc (.cells #[v1,v2,v3,v4,v5,v6,v7,v8] T)) [(v1,r1),(v2,r2),(v3,r3),(v4,r4),(v5,r5),(v6,r6),(v7,r7),(v8,r8)] (c:=8) (by simp) (nJ w9 [v1,v2,v3,v4,v5,v6,v7,v8] T (0,0)) fun x hx=>?_
  simp only[List.mem_cons,List.not_mem_nil,or_false]at hx;rcases hx with rfl | rfl | rfl | rfl | rfl | rfl | rfl | rfl<;>assumption
end Go.Proofs.YtggjbblgoddnjaaGreatDoor
