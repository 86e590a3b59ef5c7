/- Part 12 of what the proof rests on. -/
import Derived.Laws.ResultCell
import Derived.Maps.AppendAt
import Derived.Shelf.Abstract
import Derived.Test.YtggjbblgoddnjaaGreatDoorM04
import Derived.Test.YtggjbblgoddnjaaGreatDoorM05
import Derived.Test.YtggjbblgoddnjaaGreatDoorM06
import Derived.Test.YtggjbblgoddnjaaGreatDoorM10
import Derived.Test.YtggjbblgoddnjaaGreatDoorM11
import Derived.Test.YtggjbblgoddnjaaGreatDoorM00
set_option linter.unusedSimpArgs false
set_option linter.unusedVariables false
set_option maxRecDepth 100000
set_option maxHeartbeats 4000000
namespace Go.Proofs.YtggjbblgoddnjaaGreatDoor
open Go.Lx Go.RowKit
def yP (s : ByteArray) : Nat → List Dc → Int
  | _,[] => -1
  | i,d::l=>if(d.name.toList==s.toList)=true then i else yP s (i+1) l
def l7(s:ByteArray)(l:List Dc):Option Dc:=l.find? fun d=>d.name.toList==s.toList
theorem yOA{s:ByteArray}{l:List Dc}{k:Nat}(hk:k < l.length):yP s k (l.drop k)=if(l[k].name.toList==s.toList)=true then(k:Int) else yP s (k+1) (l.drop (k+1)):=by
 rw[List.drop_eq_getElem_cons hk];rfl
theorem wZ (s : ByteArray) : ∀ (l : List Dc) (i : Nat), (yP s i l = -1 ∧ l7 s l = none) ∨ ∃ (k : Nat) (h : k < l.length), yP s i l = ((i + k : Nat) : Int) ∧ l7 s l = some l[k]
  | [],_=>.inl ⟨rfl,rfl⟩
  | d :: l, i => by
    by_cases h:(d.name.toList==s.toList)=true
    · exact .inr ⟨0,by simp,by simp[yP,h],by simp[l7,h]⟩
    · rcases wZ s l (i + 1) with ⟨h1, h2⟩ | ⟨k, hk, h1, h2⟩
      · exact .inl ⟨by simp only[yP,if_neg h,h1],by unfold l7 at *;rw[List.find?_cons_of_neg (p:=fun d:Dc=>d.name.toList==s.toList) h,h2]⟩
      · exact .inr ⟨k+1,by simpa using hk,by simp only[yP,if_neg h,h1];omega,by unfold l7 at *;rw[List.find?_cons_of_neg (p:=fun d:Dc=>d.name.toList==s.toList) h,h2];rfl⟩
def dcNo:Dc:=⟨0,0,⟨#[]⟩,[],[],[]⟩
theorem kL(w:World):DcV w (.agg dcZ) dcNo:=⟨_,_,_,rfl,⟨none,0,rfl,Nat.le_refl _,fun _=>rfl,RowArg.nil⟩,⟨none,0,rfl,Nat.le_refl _,fun _=>rfl,RowArg.nil⟩,⟨none,0,[],rfl,Nat.le_refl _,fun _=>rfl,RowArg.nil,Zip.nil _⟩⟩
section
variable {w0 : World}
theorem hSA(l:List Dc)(s:ByteArray){p:Option Addr}{c sb:Nat}(hl:l.length≤100000)(hp:RowsV 6 DcRow w0 p l)(hb:sb < w0.heap.size)(hs:w0.cell? ⟨sb,0,none⟩=some (.string s)) :
 Calls Tryz.prog 42 #[.slice p l.length c,.func (.func 43) #[] #[.pointer (some ⟨sb,0,none⟩)]] w0 fun e w'=>e = .returned (.int .i64 (yP s 0 l))∧Under w0 w':=by
 have HP:=aA hp;have HS:=aA hs;have HSb:=aA hb;have hn0:(0:Int)≤(l.length:Int):=by omega
 have hn9:(l.length:Int)≤100000:=by omega
 clear hp hs hb hl;go_enter Tryz.func42,Tryz.ntmps42;go_wp2;go_loopw [8] (fun i wr=>∃ k:Nat,k≤l.length∧i = .int .i64 k∧yP s 0 l=yP s k (l.drop k)∧Under w0 wr) (fun i _=>l.length - (intOf i).toNat)
 case atStart=>exact⟨0,Nat.zero_le _,rfl,by simp,Under.refl _⟩
 case round =>
   obtain⟨k,hk,rfl,hN,hU⟩:=hrel;have HN:=aA hN;have HU:=aA hU;have hk0:(0:Int)≤(k:Int):=by omega
   have hs:=(fA HU.out HSb.out 0).trans HS.out;have hsl:=Nat.lt_of_lt_of_le HSb.out HU.out.size;clear hN hU;by_cases hlt:k < l.length
   · have HC := aA (yOA (s := s) hlt); obtain ⟨b, off, r, rfl, hb, hrl, hr, hc⟩ := HP.out.at (List.getElem?_eq_getElem hlt) (by decide); obtain ⟨v1, v2, v3, rfl, ⟨p1, c1, rfl, _⟩, ⟨p2, c2, rfl, _⟩, ⟨p3, c3, us3, rfl, _⟩⟩ := hr; have cc0 := hc 0 _ rfl; have cc1 := hc 1 _ rfl; have cc2 := hc 2 _ rfl; have cc3 := hc 3 _ rfl; have cc4 := hc 4 _ rfl; have cc5 := hc 5 _ rfl; simp only [Nat.add_zero, ← Nat.add_assoc] at cc0 cc1 cc2 cc3 cc4 cc5; rw [← fA HU.out hb] at cc0 cc1 cc2 cc3 cc4 cc5; have hb' := Nat.lt_of_lt_of_le hb HU.out.size; have hlt' : (k : Int) < (l.length : Int) := by omega
     clear hc hrl;generalize l[k]=d at *;have HUn:=aA (fun o=>bA HU.out o)
     cases hx:(d.name.toList==s.toList)
     · rw [hx] at HC; go_wp2; go_roundw
       case rel=>exact⟨k+1,by omega,by go_num,by rw[HN.out,HC.out];rfl,HUn.out _⟩
       case measure=>simp[intOf];omega
     · rw[hx]at HC;go_wp2;go_ret;exact⟨kG (by rw[HN.out,HC.out];rfl),HUn.out _⟩
   · obtain rfl : k = l.length := by omega
     go_wp2;go_ret;exact⟨kG (by rw[HN.out,List.drop_eq_nil_of_le (by omega)];rfl),HU.out⟩
def dAB(w0:World)(s:ByteArray)(l:List Dc)(e:Ending)(w:World):Prop:=∃ v,e = .returned (.tuple #[v,.bool (l7 s l).isSome])∧DcV w v ((l7 s l).getD dcNo)∧Under w0 w
theorem n2A(l:List Dc)(s:ByteArray){p:Option Addr}{c:Nat}(hl:l.length≤100000)(hd:∀ d∈l,Lite d)(hp:RowsV 6 DcRow w0 p l):Calls Tryz.prog 16 #[.slice p l.length c,.string s] w0 (dAB w0 s l):=by
 have HB1:=aA ((rA w0 #[.string s] 9).alloc (.cells dcZ 33));have HU:=aA (bA (bA (Under.refl w0) (.cells #[.string s] 9)) (.cells dcZ 33));have HB2:=aA (show BoxAt ((w0.alloc (.cells #[.string s] 9)).alloc (.cells dcZ 33)) (w0.heap.size+1) 33 dcZ by have:=rA (w0.alloc (.cells #[.string s] 9)) dcZ 33;simpa using this);have HI:=aA (hSA (c:=c) l s hl (RowsV.under DcRow.mono hp HU.out) HB1.out.lt (HB1.out.cell 0));have HP:=aA hp;have HD:=aA hd;have HCs:=aA (wZ s l 0);have hn9:(l.length:Int)≤100000:=by omega
 have hn0:(0:Int)≤(l.length:Int):=by omega
 clear hp hd hl;go_enter Tryz.func16,Tryz.ntmps16;go_wp2_with fail;refine HI.out.mono ?_;rintro e w1 ⟨rfl,hU1⟩;have HU1:=aA (HU.out.trans hU1);have HB:=aA (HB2.out.under hU1);clear hU1 HI HB1 HB2;have d0:=HB.out.cell 0;have d1:=HB.out.cell 1;have d2:=HB.out.cell 2;have d3:=HB.out.cell 3;have d4:=HB.out.cell 4;have d5:=HB.out.cell 5;have g0:=HB.out.free 0;have g1:=HB.out.free 1;have g2:=HB.out.free 2;have g3:=HB.out.free 3;have g4:=HB.out.free 4;have g5:=HB.out.free 5;have dl:=HB.out.lt;rcases HCs.out with⟨h1,h2⟩ | ⟨k,hk,h1,h2⟩
 · rw[h1];have H2:=aA h2;clear h1 h2 HCs;go_wp2;obtain⟨wf,hwf⟩:∃ wf,wf=(((((w1.setCell ⟨w0.heap.size+1,0,none⟩ (.int .i64 0)).setCell ⟨w0.heap.size+1,1,none⟩ (.int .i64 0)).setCell ⟨w0.heap.size+1,2,none⟩ (.string ⟨#[]⟩)).setCell ⟨w0.heap.size+1,3,none⟩ (.slice none 0 0)).setCell ⟨w0.heap.size+1,4,none⟩ (.slice none 0 0)).setCell ⟨w0.heap.size+1,5,none⟩ (.slice none 0 0):=⟨_,rfl⟩;have HF:=aA (show BoxAt wf (w0.heap.size+1) 33 #[.int .i64 0,.int .i64 0,.string ⟨#[]⟩,.slice none 0 0,.slice none 0 0,.slice none 0 0] by rw[hwf];exact(((((HB.out.set 0 _).set 1 _).set 2 _).set 3 _).set 4 _).set 5 _);have HX:=aA (show Ch (fun b=>b=w0.heap.size+1) w1 wf by rw[hwf];exact((((((Ch.refl (C:=fun b=>b=w0.heap.size+1) w1).set (fun _=>rfl) _ _).set (fun _=>rfl) _ _).set (fun _=>rfl) _ _).set (fun _=>rfl) _ _).set (fun _=>rfl) _ _).set (fun _=>rfl) _ _);rw[← hwf];clear hwf d0 d1 d2 d3 d4 d5 g0 g1 g2 g3 g4 g5;have e0:=HF.out.cell 0;have e1:=HF.out.cell 1;have e2:=HF.out.cell 2;have e3:=HF.out.cell 3;have e4:=HF.out.cell 4;have e5:=HF.out.cell 5;refine bodyPost_ret (v:=.tuple #[.agg #[.int .i64 0,.int .i64 0,.string ⟨#[]⟩,.slice none 0 0,.slice none 0 0,.slice none 0 0],.bool _]) ((results_cell_tmp rfl _ _ _).trans (by simp[go_sem,e0,e1,e2,e3,e4,e5];rfl)) rfl ?_;exact⟨_,by rw[H2.out];rfl,by rw[H2.out];exact kL _,jC HU1.out HX.out fun b hb=>by omega⟩
 · rw [h1, Nat.zero_add]; have H2 := aA h2; have hk0 : (0 : Int) ≤ (k : Int) := by omega
   have hk9:(k:Int) < (l.length:Int):=by omega
   obtain⟨b,off,r,rfl,hb,hrl,hr,hc⟩:=HP.out.at (List.getElem?_eq_getElem hk) (by decide);have HR:=aA (DcRow.val hr);obtain⟨v1,v2,v3,rfl,⟨p1,c1,rfl,_⟩,⟨p2,c2,rfl,_⟩,⟨p3,c3,us3,rfl,_⟩⟩:=hr;have cc0:=hc 0 _ rfl;have cc1:=hc 1 _ rfl;have cc2:=hc 2 _ rfl;have cc3:=hc 3 _ rfl;have cc4:=hc 4 _ rfl;have cc5:=hc 5 _ rfl;simp only[Nat.add_zero,← Nat.add_assoc]at cc0 cc1 cc2 cc3 cc4 cc5;rw[← fA HU1.out hb]at cc0 cc1 cc2 cc3 cc4 cc5;have hb':=Nat.lt_of_lt_of_le hb HU1.out.size;have HC:=aA (cVA (w0:=w1) l[k] (HD.out _ (List.getElem_mem hk)) (DcV.mono _ _ _ _ HU1.out HR.out));clear h1 h2 HCs hc hrl;generalize l[k]=d at *;go_wp2_with fail;refine HC.out.mono ?_;rintro e w2 ⟨v2,rfl,hv2,hU2⟩;obtain⟨q,k1,q',k2,r',k3,rfl⟩:=hv2.agg;have HV:=aA hv2;have HB:=aA (HB.out.under hU2);have HS:=aA HB.out.lt;have HL:=aA (show w0.heap.size+1 < w1.heap.size from dl);have HU2:=aA (HU1.out.trans hU2);clear hv2 hU2 HC cc0 cc1 cc2 cc3 cc4 cc5 hb' d0 d1 d2 d3 d4 d5 g0 g1 g2 g3 g4 g5 dl;have d0:=HB.out.cell 0;have d1:=HB.out.cell 1;have d2:=HB.out.cell 2;have d3:=HB.out.cell 3;have d4:=HB.out.cell 4;have d5:=HB.out.cell 5;have g0:=HB.out.free 0;have g1:=HB.out.free 1;have g2:=HB.out.free 2;have g3:=HB.out.free 3;have g4:=HB.out.free 4;have g5:=HB.out.free 5;have dl:=HB.out.lt;go_wp2;obtain⟨wf,hwf⟩:∃ wf,wf=(((((w2.setCell ⟨w0.heap.size+1,0,none⟩ (.int .i64 d.kind)).setCell ⟨w0.heap.size+1,1,none⟩ (.int .i64 d.level)).setCell ⟨w0.heap.size+1,2,none⟩ (.string d.name)).setCell ⟨w0.heap.size+1,3,none⟩ (.slice q d.type.length k1)).setCell ⟨w0.heap.size+1,4,none⟩ (.slice q' d.body.length k2)).setCell ⟨w0.heap.size+1,5,none⟩ (.slice r' d.cons.length k3):=⟨_,rfl⟩;have HF:=aA (show BoxAt wf (w0.heap.size+1) 33 #[.int .i64 d.kind,.int .i64 d.level,.string d.name,.slice q d.type.length k1,.slice q' d.body.length k2,.slice r' d.cons.length k3] by rw[hwf];exact(((((HB.out.set 0 _).set 1 _).set 2 _).set 3 _).set 4 _).set 5 _);have HX:=aA (show Ch (fun b=>b=w0.heap.size+1) w2 wf by rw[hwf];exact((((((Ch.refl (C:=fun b=>b=w0.heap.size+1) w2).set (fun _=>rfl) _ _).set (fun _=>rfl) _ _).set (fun _=>rfl) _ _).set (fun _=>rfl) _ _).set (fun _=>rfl) _ _).set (fun _=>rfl) _ _);rw[← hwf];clear hwf d0 d1 d2 d3 d4 d5 g0 g1 g2 g3 g4 g5;have e0:=HF.out.cell 0;have e1:=HF.out.cell 1;have e2:=HF.out.cell 2;have e3:=HF.out.cell 3;have e4:=HF.out.cell 4;have e5:=HF.out.cell 5;refine bodyPost_ret (v:=.tuple #[.agg #[.int .i64 d.kind,.int .i64 d.level,.string d.name,.slice q d.type.length k1,.slice q' d.body.length k2,.slice r' d.cons.length k3],.bool _]) ((results_cell_tmp rfl _ _ _).trans (by simp[go_sem,e0,e1,e2,e3,e4,e5];rfl)) rfl ?_;exact⟨_,by rw[H2.out];rfl,by rw[H2.out];exact(HV.out.ch HX.out fun b hb=>by have:=HL.out;omega).val,jC HU2.out HX.out fun b hb=>by omega⟩
end
def knC(l:List Dc):List ByteArray:=(l.filter fun d=>d.kind==1||d.kind==2).map (·.name)
def knD(l:List Dc):List ByteArray:=(l.filter fun d=>d.kind==3).map (·.name)
theorem f8A(l:List Dc){k:Nat}(hk:k < l.length):knC (l.take (k+1))=knC (l.take k)++(if(l[k].kind==1||l[k].kind==2)=true then [l[k].name] else [])∧knD (l.take (k+1))=knD (l.take k)++(if(l[k].kind==3)=true then [l[k].name] else []):=by
 rw[List.take_succ_eq_append_getElem hk];unfold knC knD;simp only[List.filter_append,List.map_append,List.filter_cons,List.filter_nil];constructor<;>split<;>simp[*]
theorem j6A(l:List Dc):(knC l).length≤l.length∧(knD l).length≤l.length:=by
 unfold knC knD;simp only[List.length_map];exact⟨List.length_filter_le _ _,List.length_filter_le _ _⟩
structure TwoT (B:Nat) (w:World) (vc vd:Value) (cs ds:List ByteArray):Prop where
 one:w.ownsRow B 9 1 vc cs.length (cs.map .string)
 two:w.ownsRow B 9 1 vd ds.length (ds.map .string)
 ne:vc.ownBlock=none∨vc.ownBlock≠vd.ownBlock
structure KnR (T:TypeId) (w0:World) (l:List Dc) (k:Nat) (wr:World):Prop where
 ex:∃ vc vd,BoxAt wr (w0.heap.size+1) T #[vc,vd]∧TwoT (w0.heap.size+2) wr vc vd (knC (l.take k)) (knD (l.take k))
 res:BoxAt wr w0.heap.size T #[.slice none 0 0,.slice none 0 0]
 und:Under w0 wr
theorem KnR.under{T:TypeId}{w0:World}{l:List Dc}{k:Nat}{w w':World}(h:KnR T w0 l k w)(hU:Under w w'):KnR T w0 l k w':=by
 obtain⟨⟨vc,vd,h1,h2⟩,h3,h4⟩:=h;exact⟨⟨vc,vd,h1.under hU,uA h2.one hU,uA h2.two hU,h2.ne⟩,h3.under hU,h4.trans hU⟩
def iDB(w0:World)(l:List Dc)(e:Ending)(w:World):Prop:=∃ vc vd,e = .returned (.agg #[vc,vd])∧TwoT w0.heap.size w vc vd (knC l) (knD l)∧Under w0 w
theorem Tryz.infoStrK:(Tryz.prog.info? 9).map (fun i=>(i.zero,i.size,i.bytes))=some (some (.string ⟨#[]⟩),1,16):=by kernel_rfl
theorem KnR.same{T:TypeId}{w0:World}{l:List Dc}{k k':Nat}{w:World}(h1:knC (l.take k')=knC (l.take k)++[])(h2:knD (l.take k')=knD (l.take k)++[])(h:KnR T w0 l k w):KnR T w0 l k' w:=by
 obtain⟨⟨vc,vd,a,b⟩,c,d⟩:=h;rw[List.append_nil]at h1 h2;exact⟨⟨vc,vd,a,by rw[h1,h2];exact b⟩,c,d⟩
theorem dEA{a b:Option Nat}(h:a=none∨a≠b):b=none∨b≠a:=by
 rcases h with rfl | h
 · cases b with
   | none=>exact .inl rfl
   | some x=>exact .inr fun e=>by cases e
 · exact .inr fun e=>h e.symm
theorem iRA{T:TypeId}{w0 w:World}{l:List Dc}{k:Nat}{vc vd:Value}{cs ds:List ByteArray}(hb:BoxAt w (w0.heap.size+1) T #[vc,vd])(hr:BoxAt w w0.heap.size T #[.slice none 0 0,.slice none 0 0])(hU:Under w0 w)(h1:knC (l.take k)=cs)(h2:knD (l.take k)=ds)(hc:w.ownsRow (w0.heap.size+2) 9 1 vc cs.length (cs.map .string))(hd:w.ownsRow (w0.heap.size+2) 9 1 vd ds.length (ds.map .string))(hn:vc.ownBlock=none∨vc.ownBlock≠vd.ownBlock):KnR T w0 l k w:=by
 subst h1 h2;exact⟨⟨vc,vd,hb,hc,hd,hn⟩,hr,hU⟩
section
variable {w0 : World}
theorem kYA(l:List Dc){p:Option Addr}{c:Nat}(hl:l.length≤100000)(hp:RowsV 6 DcRow w0 p l):Calls Tryz.prog 18 #[.slice p l.length c] w0 (iDB w0 l):=by
 obtain⟨i0,hi,hz0,hz1,hz2⟩:=info_parts Tryz.infoStrK;have HP:=aA hp;have HL:=aA hl;have hn9:(l.length:Int)≤100000:=by omega
 have hn0:(0:Int)≤(l.length:Int):=by omega
 clear hp hl; go_enter Tryz.func18, Tryz.ntmps18; go_wp2; have HK0 := aA (show KnR 52 w0 l 0 ((w0.alloc (.cells #[.slice none 0 0, .slice none 0 0] 52)).alloc (.cells #[.slice none 0 0, .slice none 0 0] 52)) from by
   have hb:=rA (w0.alloc (.cells #[.slice none 0 0,.slice none 0 0] 52)) #[.slice none 0 0,.slice none 0 0] 52;exact⟨⟨_,_,by simpa using hb,World.ownsRow_nil _ _ _ _,World.ownsRow_nil _ _ _ _,.inl rfl⟩,(rA w0 _ _).alloc _,bA (bA (Under.refl w0) _) _⟩)
 generalize (w0.alloc (.cells #[.slice none 0 0,.slice none 0 0] 52)).alloc (.cells #[.slice none 0 0,.slice none 0 0] 52)=w1 at *;go_loopw [8] (fun i wr=>∃ k:Nat,k≤l.length∧i = .int .i64 k∧KnR 52 w0 l k wr) (fun i _=>l.length - (intOf i).toNat)
 case atStart=>exact⟨0,Nat.zero_le _,rfl,HK0.out⟩
 case round =>
   obtain⟨k,hk,rfl,hK⟩:=hrel;have HK:=aA hK;have hk0:(0:Int)≤(k:Int):=by omega
   by_cases hlt:k < l.length
   · have HN := aA (f8A l hlt); obtain ⟨b, off, r, rfl, hb, hrl, hr, hc⟩ := HP.out.at (List.getElem?_eq_getElem hlt) (by decide); obtain ⟨v1, v2, v3, rfl, ⟨p1, c1, rfl, _⟩, ⟨p2, c2, rfl, _⟩, ⟨p3, c3, us3, rfl, _⟩⟩ := hr; have cc0 := hc 0 _ rfl; have cc1 := hc 1 _ rfl; have cc2 := hc 2 _ rfl; have cc3 := hc 3 _ rfl; have cc4 := hc 4 _ rfl; have cc5 := hc 5 _ rfl; simp only [Nat.add_zero, ← Nat.add_assoc] at cc0 cc1 cc2 cc3 cc4 cc5; rw [← fA hK.und hb] at cc0 cc1 cc2 cc3 cc4 cc5; have hb' := Nat.lt_of_lt_of_le hb hK.und.size; have hlt' : (k : Int) < (l.length : Int) := by omega
     clear hc hrl hK;generalize l[k]=d at *;obtain⟨⟨vc,vd,hBn,hT⟩,hR,hUr⟩:=HK.out;have HKd:=aA (fun o=>HK.out.under (bA (Under.refl _) o));have hlc:=(j6A (l.take k)).1;have hld:=(j6A (l.take k)).2;rw[List.length_take]at hlc hld;have hl8:=HL.out;have hlc9:(knC (l.take k)).length≤100000:=by omega
     have hld9:(knD (l.take k)).length≤100000:=by omega
     have HC:=aA hT.one;have HD:=aA hT.two;have HNe:=aA hT.ne;obtain⟨qc,kc,rfl,_,_⟩:=RowArg.of_own hT.one;obtain⟨qd,kd,rfl,_,_⟩:=RowArg.of_own hT.two;have HBn:=aA hBn;have HRs:=aA hR;have HUr:=aA hUr;have n0:=HBn.out.cell 0;have n1:=HBn.out.cell 1;have nl:=HBn.out.lt;have HUs:=aA hUr.size;clear hBn hR hUr hT hlc hld hl8
     cases h1:(d.kind==1)
     · cases h2 : (d.kind == 2)
       · cases h3 : (d.kind == 3)
         · rw [h1, h2, h3] at HN; go_wp2; go_roundw
           case rel=>exact⟨k+1,by omega,by go_num,KnR.same HN.out.1 HN.out.2 (HKd.out _)⟩
           case measure=>simp[intOf];omega
         · rw [h1, h2, h3] at HN; generalize knC (l.take k) = cs at *; generalize knD (l.take k) = ds at *; go_wp2_with (at_builtin; refine wpList_append_own_at _ rfl _ _ 50 rfl (w0.heap.size + 2) 9 i0 _ 1 16 Tryz.underlying50 hi hz0 hz1 hz2 rfl (by decide) _ _ _ rfl ((HD.out.alloc _).alloc _) ⟨wr.heap.size + 1, 0, none⟩ 1 1 [.string d.name] rfl rfl (by intro j u hj; rcases j with _ | j <;> simp at hj; subst hj; simp [Addr.add]) (fun u hu => by simp at hu; subst hu; rfl) (by simp only [maxLen]; omega) (by omega) (by have := HBn.out.lt; simp; omega) ?_); intro v' w6 hown hgrow hnil hat; have HAs := aA hown; have hbk := fun g e => (jB HD.out (g := g) e).1
           have HBs := aA (((HBn.out.alloc _).alloc _).grown hgrow (fun e => by have := hbk _ e.symm; omega)); have HRe := aA (((HRs.out.alloc _).alloc _).grown hgrow (fun e => by have := hbk _ e.symm; omega)); have HOs := aA (vE ((HC.out.alloc _).alloc _) hgrow (HNe.out)); have HUe := aA (xA (bA (bA HUr.out _) _) hgrow (fun g e => by have := hbk _ e; omega)); have hns := fun (h : (.slice qd ds.length kd : Value).ownBlock = none ∨ (.slice qd ds.length kd : Value).ownBlock ≠ (.slice qc cs.length kc : Value).ownBlock) => (show v'.ownBlock = none ∨ v'.ownBlock ≠ (.slice qc cs.length kc : Value).ownBlock by
             rcases hat with e | e
             · rw[e];exact h
             · right;rw[e];intro h;have:=(jB HC.out h.symm).2;omega)
           obtain⟨q',k',rfl,_,_⟩:=RowArg.of_own hown;have HNs:=aA (hns (dEA HNe.out));clear hown hgrow hat hnil hbk hns n0 n1 nl;have n0:=HBs.out.cell 0;have n1:=HBs.out.cell 1;have f0:=HBs.out.free 0;have f1:=HBs.out.free 1;have nl:=HBs.out.lt;go_wp2;go_roundw
           case rel=>exact⟨k+1,by omega,by go_num,iRA (HBs.out.set 1 _) (HRe.out.other (by omega) _ _) (bC HUe.out (by omega) _ _) HN.out.1 HN.out.2 (by simpa using rD HOs.out (oD HBs.out HOs.out (by decide)) _ _) (by simpa using rD HAs.out (oD HBs.out HAs.out (by decide)) _ _) (dEA HNs.out)⟩
           case measure=>simp[intOf];omega
       · rw [h1, h2, show (d.kind == 3) = false from by simp at h2 ⊢; omega] at HN; generalize knC (l.take k) = cs at *; generalize knD (l.take k) = ds at *; go_wp2_with (at_builtin; refine wpList_append_own_at _ rfl _ _ 50 rfl (w0.heap.size + 2) 9 i0 _ 1 16 Tryz.underlying50 hi hz0 hz1 hz2 rfl (by decide) _ _ _ rfl ((HC.out.alloc _).alloc _) ⟨wr.heap.size + 1, 0, none⟩ 1 1 [.string d.name] rfl rfl (by intro j u hj; rcases j with _ | j <;> simp at hj; subst hj; simp [Addr.add]) (fun u hu => by simp at hu; subst hu; rfl) (by simp only [maxLen]; omega) (by omega) (by have := HBn.out.lt; simp; omega) ?_); intro v' w6 hown hgrow hnil hat; have HAs := aA hown; have hbk := fun g e => (jB HC.out (g := g) e).1
         have HBs := aA (((HBn.out.alloc _).alloc _).grown hgrow (fun e => by have := hbk _ e.symm; omega)); have HRe := aA (((HRs.out.alloc _).alloc _).grown hgrow (fun e => by have := hbk _ e.symm; omega)); have HOs := aA (vE ((HD.out.alloc _).alloc _) hgrow (dEA HNe.out)); have HUe := aA (xA (bA (bA HUr.out _) _) hgrow (fun g e => by have := hbk _ e; omega)); have hns := fun (h : (.slice qc cs.length kc : Value).ownBlock = none ∨ (.slice qc cs.length kc : Value).ownBlock ≠ (.slice qd ds.length kd : Value).ownBlock) => (show v'.ownBlock = none ∨ v'.ownBlock ≠ (.slice qd ds.length kd : Value).ownBlock by
           rcases hat with e | e
           · rw[e];exact h
           · right;rw[e];intro h;have:=(jB HD.out h.symm).2;omega)
         obtain⟨q',k',rfl,_,_⟩:=RowArg.of_own hown;have HNs:=aA (hns (HNe.out));clear hown hgrow hat hnil hbk hns n0 n1 nl;have n0:=HBs.out.cell 0;have n1:=HBs.out.cell 1;have f0:=HBs.out.free 0;have f1:=HBs.out.free 1;have nl:=HBs.out.lt;go_wp2;go_roundw
         case rel=>exact⟨k+1,by omega,by go_num,iRA (HBs.out.set 0 _) (HRe.out.other (by omega) _ _) (bC HUe.out (by omega) _ _) HN.out.1 HN.out.2 (by simpa using rD HAs.out (oD HBs.out HAs.out (by decide)) _ _) (by simpa using rD HOs.out (oD HBs.out HOs.out (by decide)) _ _) HNs.out⟩
         case measure=>simp[intOf];omega
     · rw [h1, show (d.kind == 3) = false from by simp at h1 ⊢; omega] at HN; generalize knC (l.take k) = cs at *; generalize knD (l.take k) = ds at *; go_wp2_with (at_builtin; refine wpList_append_own_at _ rfl _ _ 50 rfl (w0.heap.size + 2) 9 i0 _ 1 16 Tryz.underlying50 hi hz0 hz1 hz2 rfl (by decide) _ _ _ rfl ((HC.out.alloc _).alloc _) ⟨wr.heap.size + 1, 0, none⟩ 1 1 [.string d.name] rfl rfl (by intro j u hj; rcases j with _ | j <;> simp at hj; subst hj; simp [Addr.add]) (fun u hu => by simp at hu; subst hu; rfl) (by simp only [maxLen]; omega) (by omega) (by have := HBn.out.lt; simp; omega) ?_); intro v' w6 hown hgrow hnil hat; have HAs := aA hown; have hbk := fun g e => (jB HC.out (g := g) e).1
       have HBs := aA (((HBn.out.alloc _).alloc _).grown hgrow (fun e => by have := hbk _ e.symm; omega)); have HRe := aA (((HRs.out.alloc _).alloc _).grown hgrow (fun e => by have := hbk _ e.symm; omega)); have HOs := aA (vE ((HD.out.alloc _).alloc _) hgrow (dEA HNe.out)); have HUe := aA (xA (bA (bA HUr.out _) _) hgrow (fun g e => by have := hbk _ e; omega)); have hns := fun (h : (.slice qc cs.length kc : Value).ownBlock = none ∨ (.slice qc cs.length kc : Value).ownBlock ≠ (.slice qd ds.length kd : Value).ownBlock) => (show v'.ownBlock = none ∨ v'.ownBlock ≠ (.slice qd ds.length kd : Value).ownBlock by
         rcases hat with e | e
         · rw[e];exact h
         · right;rw[e];intro h;have:=(jB HD.out h.symm).2;omega)
       obtain⟨q',k',rfl,_,_⟩:=RowArg.of_own hown;have HNs:=aA (hns (HNe.out));clear hown hgrow hat hnil hbk hns n0 n1 nl;have n0:=HBs.out.cell 0;have n1:=HBs.out.cell 1;have f0:=HBs.out.free 0;have f1:=HBs.out.free 1;have nl:=HBs.out.lt;go_wp2;go_roundw
       case rel=>exact⟨k+1,by omega,by go_num,iRA (HBs.out.set 0 _) (HRe.out.other (by omega) _ _) (bC HUe.out (by omega) _ _) HN.out.1 HN.out.2 (by simpa using rD HAs.out (oD HBs.out HAs.out (by decide)) _ _) (by simpa using rD HOs.out (oD HBs.out HOs.out (by decide)) _ _) HNs.out⟩
       case measure=>simp[intOf];omega
   · obtain rfl : k = l.length := by omega
     obtain⟨⟨vc,vd,hBn,hT⟩,hR,hUr⟩:=HK.out;rw[List.take_length]at hT;obtain⟨qc,kc,rfl,_,_⟩:=RowArg.of_own hT.one;obtain⟨qd,kd,rfl,_,_⟩:=RowArg.of_own hT.two;have HT:=aA hT;have HR:=aA hR;have HU:=aA hUr;have n0:=hBn.cell 0;have n1:=hBn.cell 1;have nl:=hBn.lt;have r0:=hR.cell 0;have r1:=hR.cell 1;have g0:=hR.free 0;have g1:=hR.free 1;have rl:=hR.lt;clear hBn hT hR hUr;go_wp2;obtain⟨wf,hwf⟩:∃ wf,wf=(wr.setCell ⟨w0.heap.size,0,none⟩ (.slice qc (knC l).length kc)).setCell ⟨w0.heap.size,1,none⟩ (.slice qd (knD l).length kd):=⟨_,rfl⟩;have HF:=aA (show BoxAt wf w0.heap.size 52 #[.slice qc (knC l).length kc,.slice qd (knD l).length kd] by rw[hwf];exact(HR.out.set 0 _).set 1 _);have HC:=aA (show Ch (fun b=>b=w0.heap.size) wr wf by rw[hwf];exact((Ch.refl (C:=fun b=>b=w0.heap.size) wr).set (fun _=>rfl) _ _).set (fun _=>rfl) _ _);rw[← hwf];clear hwf n0 n1 r0 r1 g0 g1;have e0:=HF.out.cell 0;have e1:=HF.out.cell 1;refine bodyPost_ret (v:=.agg #[.slice qc (knC l).length kc,.slice qd (knD l).length kd]) ((mX rfl _ _ _).trans (by simp[go_sem,e0,e1])) rfl ⟨_,_,rfl,⟨wD (xJ HT.out.one HC.out fun g hg hc=>by have:=(jB HT.out.one hg).1;omega) (by omega),wD (xJ HT.out.two HC.out fun g hg hc=>by have:=(jB HT.out.two hg).1;omega) (by omega),HT.out.ne⟩,jC HU.out HC.out fun b hb=>by omega⟩
end
def bI : Nat → Left → List ByteArray → Option (List ByteArray × Left)
  | 0,st,acc=>some (acc,st)
  | m+1,st,acc=>if zF st < 0 then some (acc,st) else if 20000 < iB 2 st then none else bI m (iA (iB 2 st) (iA 2 st)) (acc++[iF (iB 2 st) (iA 2 st)])
def xG : Option (List ByteArray × Left) → Option (List ByteArray)
  | none=>none
  | some r=>if zF r.2≠0 then none else some r.1
def zC(s:ByteArray):Option (List ByteArray):=if s.toList=[] then none else xG (bI (iB 1 (some s.data.toList)) (iA 1 (some s.data.toList)) [])
def v1A(w0:World)(R:Option (List ByteArray))(e:Ending)(w:World):Prop:=Under w0 w∧match R with
 | none=>e = .returned (.tuple #[.slice none 0 0,.int .i64 50])
 | some l=>∃ v,e = .returned (.tuple #[v,.int .i64 0])∧w.ownsRow w0.heap.size 9 1 v l.length (l.map .string)
def nDB(w0:World)(M:Nat)(S:Left)(v m:Value)(wr:World):Prop:=∃(st:Left) (acc:List ByteArray) (n:Nat),m = .int .i64 (n:Int)∧bI M S []=bI n st acc∧acc.length+n≤255∧TkAt w0 (w0.heap.size+1) w0.heap.size st wr∧wr.ownsRow (w0.heap.size+2) 9 1 v acc.length (acc.map .string)
section
variable {w0 w : World}
theorem bGA(s:ByteArray)(hs:s.size≤1000000):Calls Tryz.prog 98 #[.string s] w0 (v1A w0 (zC s)):=by
 by_cases hz:s.size=0
 · obtain rfl:=yAA hz;go_enter Tryz.func98,Tryz.ntmps98;go_wp2;go_ret2;rw[show zC ⟨#[]⟩=none from if_pos (by first | rfl | decide | kernel_rfl)];exact⟨Under.refl _,rfl⟩
 · have he := (yG hz).1; have HTk := aA (xJA (w0 := w0) s hs); have HD : RowKit.Hid (zC s = xG (bI (iB 1 (some s.data.toList)) (iA 1 (some s.data.toList)) [])) := aA (if_neg he); have he2 := (yG hz).2; generalize zC s = PD at *; clear hs hz; go_enter Tryz.func98, Tryz.ntmps98; go_wp2_with fail; refine HTk.out.mono ?_; rintro e w1 ⟨rfl, hT⟩; generalize some s.data.toList = S at *; have HT := aA hT; clear hT HTk; go_wp2_with fail; refine (sF 1 (by decide) HT.out).mono ?_; rintro e w2 ⟨rfl, hT, hC⟩; have HT := aA hT; clear hT hC; go_wp2_with fail; refine (qI 1 (by decide) _).mono ?_; rintro e wN ⟨rfl, rfl⟩; have hm2 := rV S; generalize iB 1 S = M at *; generalize iA 1 S = S2 at *; go_wp2; go_loopw [6, 7] (fun v m wr => nDB w0 M S2 v m wr) (fun _ m _ => (intOf m).toNat)
   case atStart=>exact⟨S2,[],M,rfl,rfl,by simp;omega,HT.out,lF _ _ _ _⟩
   case round =>
     obtain⟨st,acc,n,rfl,hpd,hlen,hT,hrow⟩:=hrel;have HT:=aA hT;have HRow:=aA hrow;have HPd:=aA hpd;have HLf:=aA (zV HT.out);clear hT hrow hpd
     cases n with
     | zero =>
       have HPD:=aA (show PD=xG (some (acc,st)) by rw[HD.out,HPd.out];rfl);clear hlen HD HPd;by_cases hL:zF st=0
       · rw[hL]at HLf;have HPE:=aA (show PD=some acc by rw[HPD.out];simp only[xG];rw[if_neg (by omega)]);clear hL;go_wp2_with fail;refine HLf.out.mono ?_;rintro e wL ⟨rfl,rfl⟩;obtain⟨q,c,rfl,hq1,hq2,hq3⟩:=TextsV.of_own HRow.out;have HQ:=aA (wD (base':=w0.heap.size) HRow.out (by omega));clear hq1 hq2 hq3;go_wp2;go_ret2;rw[HPE.out];exact⟨HT.out.und,_,rfl,HQ.out⟩
       · have HPE := aA (show PD = none by rw [HPD.out]; simp only [xG]; rw [if_pos hL]); have hL' : (zF st != 0) = true := by simpa using hL
         clear hL;go_wp2_with fail;refine HLf.out.mono ?_;rintro e wL ⟨rfl,rfl⟩;go_wp2;go_ret2;rw[HPE.out];exact⟨HT.out.und,rfl⟩
     | succ n =>
       have HLe:=aA hlen;have hN0:(0:Int)≤(n:Int):=by omega
       have hN9:(n:Int)≤255:=by omega
       clear hlen;by_cases hlt:zF st < 0
       · have HPD := aA (show PD = xG (some (acc, st)) by rw [HD.out, HPd.out]; simp only [bI, if_pos hlt]); have HLh := HLf; clear HD HPd; go_wp2_with fail; refine HLh.out.mono ?_; rintro e wL ⟨rfl, rfl⟩; by_cases hL : zF st = 0
         · rw[hL]at HLf;have HPE:=aA (show PD=some acc by rw[HPD.out];simp only[xG];rw[if_neg (by omega)]);clear hL;go_wp2_with fail;refine HLf.out.mono ?_;rintro e wL ⟨rfl,rfl⟩;obtain⟨q,c,rfl,hq1,hq2,hq3⟩:=TextsV.of_own HRow.out;have HQ:=aA (wD (base':=w0.heap.size) HRow.out (by omega));clear hq1 hq2 hq3;go_wp2;go_ret2;rw[HPE.out];exact⟨HT.out.und,_,rfl,HQ.out⟩
         · have HPE := aA (show PD = none by rw [HPD.out]; simp only [xG]; rw [if_pos hL]); have hL' : (zF st != 0) = true := by simpa using hL
           clear hL;go_wp2_with fail;refine HLf.out.mono ?_;rintro e wL ⟨rfl,rfl⟩;go_wp2;go_ret2;rw[HPE.out];exact⟨HT.out.und,rfl⟩
       · have hd : ¬ zF st < (0 : Int) := hlt; have hd2 : (0 : Int) ≤ zF st := by omega
         by_cases hbig:20000 < iB 2 st
         · have HPE := aA (show PD = none by rw [HD.out, HPd.out]; simp only [bI, if_neg hlt, if_pos hbig]; rfl); have hbig' : (20000 : Int) < (iB 2 st : Int) := by omega
           clear hbig hlt;generalize zF st=lf at *;go_wp2_with fail;refine HLf.out.mono ?_;rintro e wL ⟨rfl,rfl⟩;go_wp2_with fail;refine(sF 2 (by decide) HT.out).mono ?_;rintro e w3 ⟨rfl,hT,hC⟩;have HT3:=aA hT;clear hT hC;go_wp2_with fail;refine(qI 2 (by decide) _).mono ?_;rintro e wN ⟨rfl,rfl⟩;go_wp2;go_ret2;rw[HPE.out];exact⟨HT3.out.und,rfl⟩
         · have HPq := aA (show bI M S2 [] = bI n (iA (iB 2 st) (iA 2 st)) (acc ++ [iF (iB 2 st) (iA 2 st)]) by rw [HPd.out]; simp only [bI, if_neg hlt, if_neg hbig]); have hbig' : ¬ (20000 : Int) < (iB 2 st : Int) := by omega
           have hb9:iB 2 st≤1000000:=by omega
           obtain⟨i0,hi,hz0,hz1,hz2⟩:=info_parts Tryz.infoStrK;have hmx:acc.length+1≤maxLen:=by simp only[maxLen];have:=HLe.out;omega
           have hby:(acc.length+1) * 16≤140737488355328:=by have:=HLe.out;omega
           clear hbig hlt;generalize zF st=lf at *;go_wp2_with fail;refine HLf.out.mono ?_;rintro e wL ⟨rfl,rfl⟩;go_wp2_with fail;refine(sF 2 (by decide) HT.out).mono ?_;rintro e w3 ⟨rfl,hT,hC⟩;have HT3:=aA hT;have HR3:=aA (xJ HRow.out hC fun g hg hc=>by have:=(jB HRow.out hg).1;rcases hc with hc | hc<;>omega);clear hT hC;go_wp2_with fail;refine(qI 2 (by decide) _).mono ?_;rintro e wN ⟨rfl,rfl⟩;go_wp2_with fail;refine(sF (iB 2 st) hb9 HT3.out).mono ?_;rintro e w4 ⟨rfl,hT,hC⟩;have HT4:=aA hT;have HR4:=aA (xJ HR3.out hC fun g hg hc=>by have:=(jB HR3.out hg).1;rcases hc with hc | hc<;>omega);clear hT hC;go_wp2_with (at_builtin;refine wpList_append_own_at _ rfl _ _ 50 rfl (w0.heap.size+2) 9 i0 _ 1 16 Tryz.underlying50 hi hz0 hz1 hz2 rfl (by decide) _ _ _ rfl (uA HR4.out (bA (Under.refl _) _)) ⟨w4.heap.size,0,none⟩ 1 1 [.string (iF (iB 2 st) (iA 2 st))] rfl rfl ?c1 ?c2 hmx hby ?c5 ?_)
           case c1=>exact tH (by simp) _ _
           case c2=>intro u hu;simp at hu;subst hu;rfl
           case c5=>have:=HT4.out.ok.lt;simp at this ⊢;omega
           intro v' w' hown hgrow hnil hat;have HT':=aA (show TkAt w0 (w0.heap.size+1) w0.heap.size (iA (iB 2 st) (iA 2 st)) w' from(HT4.out.under (bA (Under.refl _) _)).grown hgrow fun g hg=>by have:=(jB HR4.out hg).1;omega);have HO':=aA (show w'.ownsRow (w0.heap.size+2) 9 1 v' (acc++[iF (iB 2 st) (iA 2 st)]).length ((acc++[iF (iB 2 st) (iA 2 st)]).map .string) by rw[List.map_append,List.length_append];exact hown);clear hown hgrow hnil hat;go_wp2;go_roundw
           case rel=>exact⟨_,_,n,by go_num,HPq.out,by rw[List.length_append];have:=HLe.out;simp;omega,HT'.out,HO'.out⟩
           case measure=>first | (simp[intOf];done) | (simp[intOf];omega)
end
def aF : List (List Nd) → List ByteArray → Option (List (List Nd))
  | acc,[]=>some acc
  | acc, s :: l => match nG s with
    | none=>none
    | some t=>aF (acc++[t]) l
theorem rGA{acc:List (List Nd)}{l:List ByteArray}{k:Nat}(hk:k < l.length)(h:nG l[k]=none):aF acc (l.drop k)=none:=by
 rw[List.drop_eq_getElem_cons hk];simp only[aF,h]
theorem sFA{acc:List (List Nd)}{l:List ByteArray}{k:Nat}{t:List Nd}(hk:k < l.length)(h:nG l[k]=some t):aF acc (l.drop k)=aF (acc++[t]) (l.drop (k+1)):=by
 rw[List.drop_eq_getElem_cons hk];simp only[aF,h]
def uAB(w0:World)(R:Option (List (List Nd)))(e:Ending)(w:World):Prop:=Under w0 w∧match R with
 | none=>e = .returned (.tuple #[.slice none 0 0,.bool false])
 | some ts=>∃ v,e = .returned (.tuple #[v,.bool true])∧Ow2 w0.heap.size w v ts
def zAB(w0:World)(l:List ByteArray)(v i:Value)(wr:World):Prop:=∃(k:Nat) (acc:List (List Nd)) (us:List Value),k≤l.length∧i = .int .i64 (k:Int)∧acc.length=k∧aF [] l=aF acc (l.drop k)∧wr.ownsRow w0.heap.size 30 1 v k us∧Zip (Ow1 w0.heap.size wr) us acc∧Under w0 wr
section
variable {w0 : World}
theorem gW(l:List ByteArray){p:Option Addr}{c:Nat}(hn:l.length≤1000000)(hs:∀ s∈l,s.size≤1000000)(hl:TextsV w0 (.slice p l.length c) l)(hS:ShapesAt 3 w0)(hF:FieldsAll 0 w0):Calls Tryz.prog 99 #[.slice p l.length c] w0 (uAB w0 (aF [] l)):=by
 have HS:=aA (And.intro hs (And.intro hS hF));have HL:=aA (show RowArg w0 p (l.map .string) from by obtain⟨p1,c1,e,_,_,h⟩:=hl;cases e;exact h);have hn0:(0:Int)≤(l.length:Int):=by omega
 have hn9:(l.length:Int)≤1000000:=by omega
 obtain⟨i0,hi,hz0,hz1,hz2⟩:=info_parts Tryz.infoNdsC;clear hs hl hS hF;go_enter Tryz.func99,Tryz.ntmps99;go_wp2;go_loopw [4,12] (fun v i wr=>zAB w0 l v i wr) (fun _ i _=>l.length - (intOf i).toNat)
 case atStart=>exact⟨0,[],[],Nat.zero_le _,rfl,rfl,rfl,uR _ _ _ _ (Nat.le_refl _),Zip.nil _,bA (Under.refl _) _⟩
 case round =>
   obtain⟨k,acc,us,hk,rfl,hak,hg,hown,hz,hU⟩:=hrel;have hk0:(0:Int)≤(k:Int):=by omega
   have HO:=aA hown;have HZ:=aA hz;have HU:=aA hU;have HG:=aA hg;have HAk:=aA hak;clear hown hz hU hg hak;by_cases hlt:k < l.length
   · have hlt' : (k : Int) < (l.length : Int) := by omega
     obtain⟨b,off,rfl,hb,cc⟩:=eEA HL.out hlt;rw[← fA HU.out hb]at cc;have hb':=Nat.lt_of_lt_of_le hb HU.out.size;have HN:=aA (fun h=>rGA (acc:=acc) hlt h);have HM:=aA (fun t h=>sFA (acc:=acc) (t:=t) hlt h);have HDc:=aA (vQA (w0:=wr) l[k] (HS.out.1 _ (List.getElem_mem hlt)) (HS.out.2.1.under HU.out) (HS.out.2.2.under HU.out));generalize l[k]=s at *;go_wp2_with fail;refine HDc.out.mono ?_;rintro e w1 ⟨hU1,hR⟩
     cases hp:nG s with
     | none =>
       rw[hp]at hR;subst hR;have HU1:=aA (HU.out.trans hU1);have HG:=aA (show aF [] l=none by rw[HG.out];exact HN.out hp);clear hU1;go_wp2;go_ret2;rw[HG.out];exact⟨HU1.out,rfl⟩
     | some t =>
       rw[hp]at hR;obtain⟨v,rfl,hv⟩:=hR;have HU1:=aA (HU.out.trans hU1);have HO1:=aA (uA HO.out hU1);have HZ1:=aA (HZ.out.mono fun v x h=>h.under hU1);have HV1:=aA (show Ow1 w0.heap.size w1 v t from wD hv HU.out.size);have HG:=aA (show aF [] l=aF (acc++[t]) (l.drop (k+1)) by rw[HG.out];exact HM.out t hp);obtain⟨q,c9,rfl,_⟩:=RowArg.of_own hv;clear hU1 hv cc hb';go_wp2_with (at_builtin;refine wpList_append_own_at _ rfl _ _ 96 rfl w0.heap.size 30 i0 _ 1 24 Tryz.underlying96 hi hz0 hz1 hz2 rfl (by decide) _ _ _ rfl (uA HO1.out (bA (Under.refl _) _)) ⟨w1.heap.size,0,none⟩ 1 1 [.slice q t.length c9] rfl rfl ?c1 ?c2 (by simp only[maxLen];omega) (by omega) ?c5 ?_)
       case c1=>exact tH (by simp) _ _
       case c2=>intro u hu;simp at hu;subst hu;rfl
       case c5=>have:=HU1.out.size;simp;omega
       intro v' w' hown hgrow hnil hat;have HO':=aA hown;have HU':=aA (xA (bA HU1.out _) hgrow fun g e=>(jB HO1.out e).1);have HZ':=aA ((HZ1.out.mono fun v x h=>(h.under (bA (Under.refl _) _)).grown (uA HO1.out (bA (Under.refl _) _)) hgrow (by decide)).app (Zip.one ((HV1.out.under (bA (Under.refl _) _)).grown (uA HO1.out (bA (Under.refl _) _)) hgrow (by decide))));clear hown hgrow hnil hat;go_wp2;go_roundw
       case rel=>exact⟨k+1,acc++[t],us++[_],by omega,by go_num,by rw[List.length_append,HAk.out];rfl,HG.out,HO'.out,HZ'.out,HU'.out⟩
       case measure=>simp[intOf];omega
   · obtain rfl : k = l.length := by omega
     have HG:=aA (show aF [] l=some acc by rw[HG.out,List.drop_length];rfl);obtain⟨q,c',rfl,_⟩:=RowArg.of_own HO.out;have HR:=aA (show Ow2 w0.heap.size wr (.slice q acc.length c') acc from⟨us,by rw[HAk.out];exact HO.out,HZ.out⟩);rw[HAk.out]at HR;go_wp2;go_ret2;rw[HG.out];exact⟨HU.out,_,rfl,HR.out⟩
end
theorem kV {fn : Func} {R : Ending → World → Prop} {A : Array Value} {w : World} {b : Nat} {a0 a1 a2 a3 a4 a5 v0 v1 v2 v3 v4 v5 x : Value} (hr : fn.results = #[.cell 2 33, .tmp 3]) (h2 : A.getD 2 undef = .pointer (some ⟨b, 0, none⟩)) (h3 : A.getD 3 undef = x) (hB : BoxAt w b 33 #[a0, a1, a2, a3, a4, a5])
    (hR:∀ wf,RowKit.Hid (Ch (fun g=>g=b) w wf)→R (.returned (.tuple #[.agg #[v0,v1,v2,v3,v4,v5],x])) wf) :
    bodyPost Tryz.prog fn R .ret ⟨A,[]⟩ ((((((w.setCell ⟨b,0,none⟩ v0).setCell ⟨b,1,none⟩ v1).setCell ⟨b,2,none⟩ v2).setCell ⟨b,3,none⟩ v3).setCell ⟨b,4,none⟩ v4).setCell ⟨b,5,none⟩ v5) :=
  n3A (fun w' h => by
    have e0:=h.cell 0;have e1:=h.cell 1;have e2:=h.cell 2;have e3:=h.cell 3;have e4:=h.cell 4;have e5:=h.cell 5;simp[go_sem,e0,e1,e2,e3,e4,e5]) hr h2 h3 hB hR
def rH : List (List (List Nd)) → List ByteArray → Option (List (List (List Nd)))
  | acc,[]=>some acc
  | acc, s :: l => match (zC s).bind (aF []) with
    | none=>none
    | some x=>rH (acc++[x]) l
def mQ (k lev : Int) (nm : ByteArray) : List (List Nd) → Option Dc
  | [t]=>if k=2 then some ⟨2,lev,nm,t,[],[]⟩ else none
  | [t,u]=>if k=1 then some ⟨1,lev,nm,t,u,[]⟩ else none
  | _=>none
def qU : List ByteArray → Option Dc
  | ⟨⟨[a]⟩⟩::⟨⟨[b]⟩⟩::nm::r=>if a.toNat=3 then(rH [] r).map fun c=>⟨3,b.toNat,nm,[],[],c⟩ else(aF [] r).bind (mQ a.toNat b.toNat nm)
  | _=>none
def mV(s:ByteArray):Option Dc:=(zC s).bind qU
theorem lWA : ∀ (n : Nat) (st : Left) (acc : List ByteArray) (r : List ByteArray × Left), (∀ x ∈ acc, x.size ≤ 20000) → bI n st acc = some r → (∀ x ∈ r.1, x.size ≤ 20000) ∧ r.1.length ≤ acc.length + n
  | 0,st,acc,r,h,e=>by cases e;exact⟨h,Nat.le_refl _⟩
  | n + 1, st, acc, r, h, e => by
    simp only[bI]at e
    split at e
    · cases e;exact⟨h,by simp⟩
    · split at e
      · cases e
      · rename_i hb; obtain ⟨h1, h2⟩ := lWA n _ _ r (fun x hx => by
          rcases List.mem_append.1 hx with hx | hx
          · exact h x hx
          · rw [List.mem_singleton.1 hx]; have := lS (iB 2 st) (iA 2 st)
            show(takeB (iB 2 st) (iA 2 st)).1.length≤20000
            omega) e
        exact⟨h1,by simp at h2;omega⟩
theorem kM{s:ByteArray}{l:List ByteArray}(h:zC s=some l):(∀ x∈l,x.size≤20000)∧l.length≤255:=by
 unfold zC at h
 split at h
 · cases h
 · have h1 := rV (some s.data.toList)
   cases hp:bI (iB 1 (some s.data.toList)) (iA 1 (some s.data.toList)) [] with
   | none=>rw[hp]at h;cases h
   | some r =>
     rw[hp]at h;simp only[xG]at h
     split at h
     · cases h
     · cases h;obtain⟨h2,h3⟩:=lWA _ _ _ _ (fun x hx=>(List.not_mem_nil hx).elim) hp;exact⟨h2,by simp at h3;omega⟩
def i7A(w0:World)(R:Option Dc)(e:Ending)(w:World):Prop:=∃ v,e = .returned (.tuple #[v,.bool R.isSome])∧DcO w0.heap.size w v (R.getD dcNo)∧Under w0 w
def aDB(w0:World)(r:List ByteArray)(lev:Int)(nm:ByteArray)(lv:Value)(n:Nat)(lc:List Value)(i:Value)(wr:World):Prop:=∃(k:Nat) (acc:List (List (List Nd))) (us:List Value) (vc:Value),k≤r.length∧i = .int .i64 (k:Int)∧acc.length=k∧rH [] r=rH acc (r.drop k)∧BoxAt wr w0.heap.size 33 #[.int .i64 3,.int .i64 lev,.string nm,.slice none 0 0,.slice none 0 0,vc]∧wr.ownsRow (w0.heap.size+1) 96 1 vc k us∧Zip (Ow2 (w0.heap.size+1) wr) us acc∧wr.ownsRow (w0.heap.size+1) 9 1 lv n lc∧Under w0 wr
theorem vWA(a:UInt8):IntKind.i64.wrap (a.toNat:Int)=(a.toNat:Int):=by rw[IntKind.wrap_i64];have:=a.toNat_lt;omega
theorem eRA{w:World}{b:Nat}{t:TypeId}{cs:Array Value}(h:BoxAt w b t cs):BoxAt w.drew b t cs:=h
theorem oWA{C:Nat→Prop}{a w:World}(h:Ch C a w):Ch C a w.drew:=⟨h.os,h.output,h.size,h.block⟩
def wUA(off c:Nat):Nat:=if c=3 then off else off+3
theorem mEB{b off n c:Nat}(h3:3≤n)(hc:n≤c)(w:World):(Instr.slice 50 (.slice (some ⟨b,off,none⟩) n c) (some (.int .i64 3)) none none).run Tryz.prog w = .ok (.slice (some ⟨b,wUA off c,none⟩) (n - 3) (c - 3)) w:=by
 by_cases h:c=3
 · subst h; obtain rfl : n = 3 := by omega
   simp[Instr.slice,Instr.sliceBounds,Instr.sliceBound,asIntOf,run_underlying Tryz.underlying50,go_sem,wUA]
 · have h1 : (3 : Int) ≤ (n : Int) := by omega
   have h2:(n:Int)≤(c:Int):=by omega
   have h4:¬ c - 3=0:=by omega
   simp[Instr.slice,Instr.sliceBounds,Instr.sliceBound,asIntOf,run_underlying Tryz.underlying50,go_sem,wUA,h,h1,h2,h4]
   done
theorem one_byte{s:ByteArray}(h:s.size=1):∃ a,s=⟨⟨[a]⟩⟩:=by
 obtain⟨⟨l⟩⟩:=s
 match l,(show l.length=1 from h) with
 | [a],_=>exact⟨a,rfl⟩
theorem l3A{l:List ByteArray}(h:l.length < 3):qU l=none:=by
 unfold qU
 split
 · simp at h;omega
 · rfl
theorem dYA{s0 s1 s2:ByteArray}{r:List ByteArray}(h:¬(s0.size=1∧s1.size=1)):qU (s0::s1::s2::r)=none:=by
 unfold qU
 split
 · rename_i e
   injection e with e1 e2
   injection e2 with e2 e3
   subst e1 e2;exact absurd ⟨rfl,rfl⟩ h
 · rfl
theorem g3A{k lev:Int}{nm:ByteArray}{x:List (List Nd)}(h1:¬(k=1∧x.length=2))(h2:¬(k=2∧x.length=1)):mQ k lev nm x=none:=by
 match x with
 | []=>rfl
 | [t]=>simp only[mQ];rw[if_neg (fun e=>h2 ⟨e,rfl⟩)]
 | [t,u]=>simp only[mQ];rw[if_neg (fun e=>h1 ⟨e,rfl⟩)]
 | _::_::_::_=>rfl
theorem oFA{acc:List (List (List Nd))}{l:List ByteArray}{k:Nat}(hk:k < l.length)(h:(zC l[k]).bind (aF [])=none):rH acc (l.drop k)=none:=by
 rw[List.drop_eq_getElem_cons hk];simp only[rH,h]
theorem hHA{acc:List (List (List Nd))}{l:List ByteArray}{k:Nat}{x:List (List Nd)}(hk:k < l.length)(h:(zC l[k]).bind (aF [])=some x):rH acc (l.drop k)=rH (acc++[x]) (l.drop (k+1)):=by
 rw[List.drop_eq_getElem_cons hk];simp only[rH,h]
section
variable {w0 : World}
theorem wQ(B:Nat)(w:World):DcO B w (.agg dcZ) dcNo:=⟨_,_,_,rfl,lF _ _ _ _,lF _ _ _ _,[],lF _ _ _ _,Zip.nil _⟩
theorem uOA(s:ByteArray)(hs:s.size≤1000000)(hS:ShapesAt 3 w0)(hF:FieldsAll 0 w0):Calls Tryz.prog 62 #[.string s] w0 (i7A w0 (mV s)):=by
 have HB0:=aA (rA w0 dcZ 33);have HU0:=aA (bA (Under.refl w0) (.cells dcZ 33));have HUn:=aA (bGA (w0:=w0.alloc (.cells dcZ 33)) s hs);have HX0:=aA (And.intro hS hF);have HOk:=aA (fun l h=>kM (s:=s) (l:=l) h);have HD:RowKit.Hid (mV s=(zC s).bind qU):=aA rfl;generalize mV s=PD at *;generalize zC s=PU at *;clear hS hF hs;go_enter Tryz.func62,Tryz.ntmps62;go_wp2_with fail;refine HUn.out.mono ?_;rintro e w1 ⟨hU1,hR⟩;have HU:=aA (HU0.out.trans hU1);have HB:=aA (HB0.out.under hU1);have HSz:=aA hU1.size;clear hU1 HUn;have d0:=HB.out.cell 0;have d1:=HB.out.cell 1;have d2:=HB.out.cell 2;have d3:=HB.out.cell 3;have d4:=HB.out.cell 4;have d5:=HB.out.cell 5;have g0:=HB.out.free 0;have g1:=HB.out.free 1;have g2:=HB.out.free 2;have g3:=HB.out.free 3;have g4:=HB.out.free 4;have g5:=HB.out.free 5;have dl:=HB.out.lt
 cases PU with
 | none =>
   subst hR;have HPD:=aA (show PD=none from HD.out);go_wp2;refine kV rfl rfl rfl HB.out fun wf HX=>?_
   exact⟨_,by rw[HPD.out];rfl,by rw[HPD.out];exact wQ _ _,jC HU.out HX.out fun b hb=>by omega⟩
 | some l =>
   obtain⟨v,rfl,hown⟩:=hR;obtain⟨hl1,hl2⟩:=HOk.out l rfl;have HL1:=aA hl1;obtain⟨q,c,rfl,hlc,hra⟩:=RowArg.of_own hown;have HOw:=aA hown;have HRa:=aA hra;have hn9:(l.length:Int)≤255:=by omega
   clear hown hra hl1 HOk;by_cases h3:l.length < 3
   · have HPD := aA (show PD = none by rw [HD.out]; exact l3A h3); have h3' : (l.length : Int) < 3 := by omega
     clear h3;go_wp2;refine kV rfl rfl rfl HB.out fun wf HX=>?_
     exact⟨_,by rw[HPD.out];rfl,by rw[HPD.out];exact wQ _ _,jC HU.out HX.out fun b hb=>by omega⟩
   · obtain ⟨s0, s1, s2, r, hl⟩ : ∃ s0 s1 s2 r, l = s0 :: s1 :: s2 :: r := by
       match l,h3 with
       | s0::s1::s2::r,_=>exact⟨s0,s1,s2,r,rfl⟩
       | [],h=>exact absurd (by decide) h
       | [_],h=>exact absurd (by simp) h
       | [_,_],h=>exact absurd (by simp) h
     have hlen:l.length=r.length+3:=by rw[hl];rfl
     generalize l.length=n at *;subst hl;obtain⟨b,off,rfl,hb,hc⟩:=HRa.out (by simp);have c0:w1.cell? ⟨b,off,none⟩=some (.string s0):=hc 0 _ rfl;have c1:w1.cell? ⟨b,off+1,none⟩=some (.string s1):=hc 1 _ rfl;have c2:w1.cell? ⟨b,off+2,none⟩=some (.string s2):=hc 2 _ rfl;have HC:=aA hc;have h3':¬(n:Int) < 3:=by omega
     have h30:(0:Int) < (n:Int):=by omega
     have h31:(1:Int) < (n:Int):=by omega
     have h32:(2:Int) < (n:Int):=by omega
     have hz0:(0:Int)≤(s0.size:Int):=by omega
     have hz1:(0:Int)≤(s1.size:Int):=by omega
     have HLen:=aA hlen;clear hc h3 hlen;by_cases hA:s0.size=1∧s1.size=1
     · obtain ⟨hA0, hA1⟩ := hA; obtain ⟨a, rfl⟩ := one_byte hA0; obtain ⟨a', rfl⟩ := one_byte hA1; have hs0 : (⟨⟨[a]⟩⟩ : ByteArray).size = 1 := rfl; have hs1 : (⟨⟨[a']⟩⟩ : ByteArray).size = 1 := rfl; clear hA0 hA1 hz0 hz1; go_wp2_with fail; rename_i K0 hK0; have hbl : w0.heap.size < b := by have := (jB HOw.out rfl).1; simp at this; omega
       refine wp_region_noPanic ?_;refine wp_region_held_drew (S:=fun w=>b < w.heap.size∧w.cell? ⟨b,off,none⟩=some (.string ⟨⟨[a]⟩⟩)∧w.cell? ⟨b,off+1,none⟩=some (.string ⟨⟨[a']⟩⟩)∧w.cell? ⟨b,off+2,none⟩=some (.string s2)) (by kernel_rfl) ⟨hb,c0,c1,c2⟩ (fun hHeld=>?_);refine dA 0 rfl ?_;refine dA 1 rfl ?_;refine dA 2 rfl ?_;refine dA 3 rfl ?_;refine dA 4 rfl ?_;refine dA 5 rfl ?_;refine dA 6 rfl ?_;refine dA 7 rfl ?_;refine dA 8 rfl ?_;refine dA 9 rfl ?_;refine dA 10 rfl ?_;refine dA 11 rfl ?_;refine dA 12 rfl ?_;refine dA 13 rfl ?_
       try walk_nrm
       refine yA 14 (by kernel_rfl) rfl fun K hK=>?_
       go_simp;have ea:IntKind.i64.wrap ((⟨⟨[a]⟩⟩:ByteArray)[0].toNat:Int)=(a.toNat:Int):=by rw[show(⟨⟨[a]⟩⟩:ByteArray)[0]=a from rfl];exact vWA a
       have eb:IntKind.i64.wrap ((⟨⟨[a']⟩⟩:ByteArray)[0].toNat:Int)=(a'.toNat:Int):=by rw[show(⟨⟨[a']⟩⟩:ByteArray)[0]=a' from rfl];exact vWA a'
       rw[ea,eb];obtain⟨wf,hwf⟩:∃ wf,wf=((((((w1.setCell ⟨w0.heap.size,0,none⟩ (.int .i64 a.toNat)).setCell ⟨w0.heap.size,1,none⟩ (.int .i64 a'.toNat)).setCell ⟨w0.heap.size,2,none⟩ (.string s2)).setCell ⟨w0.heap.size,3,none⟩ (.slice none 0 0)).setCell ⟨w0.heap.size,4,none⟩ (.slice none 0 0)).setCell ⟨w0.heap.size,5,none⟩ (.slice none 0 0)).drew:=⟨_,rfl⟩;have HB4:=aA (show BoxAt wf w0.heap.size 33 #[.int .i64 a.toNat,.int .i64 a'.toNat,.string s2,.slice none 0 0,.slice none 0 0,.slice none 0 0] by rw[hwf];exact eRA ((((((HB.out.set 0 _).set 1 _).set 2 _).set 3 _).set 4 _).set 5 _));have HC4:=aA (show Ch (fun b=>b=w0.heap.size) w1 wf by rw[hwf];exact oWA (((((((Ch.refl (C:=fun b=>b=w0.heap.size) w1).set (fun _=>rfl) _ _).set (fun _=>rfl) _ _).set (fun _=>rfl) _ _).set (fun _=>rfl) _ _).set (fun _=>rfl) _ _).set (fun _=>rfl) _ _));rw[← hwf];clear hwf ea eb;have HU4:=aA (jC HU.out HC4.out fun b hb=>by omega);have HOw4:=aA (wD (base':=w0.heap.size+1) (xJ HOw.out HC4.out fun g hg hc=>by have:=(jB HOw.out hg).1;simp at this;omega) (by simp));have hcell:∀ j,wf.cell? ⟨b,j,none⟩=w1.cell? ⟨b,j,none⟩:=fun j=>by simp only[World.cell?,HC4.out.block b hb (by omega)]
       refine hK.out _ _ ⟨Nat.lt_of_lt_of_le hb HC4.out.size,(hcell _).trans c0,(hcell _).trans c1,(hcell _).trans c2⟩ (fun _=>?_);clear hK K hHeld;rename_i hHeld
       try walk_nrm
       refine wpAnyH_done (by kernel_rfl) ?_ _; refine NoPanic.normal ?_; clear hHeld hcell c0 c1 c2 d0 d1 d2 d3 d4 d5 g0 g1 g2 g3 g4 g5 dl HB HB0 HC HRa HC4 HU0 HSz; refine hK0 _ _ ?_; clear hK0; have HTr := aA (show ∀ w, w.ownsRow (w0.heap.size + 1) 9 1 (.slice (some ⟨b, off, none⟩) n c) n ((⟨⟨[a]⟩⟩ :: ⟨⟨[a']⟩⟩ :: s2 :: r : List ByteArray).map .string) → RowArg w (some ⟨b, wUA off c, none⟩) (r.map .string) from fun w h hne => by
         have hc3:¬ c=3:=fun e=>hne (by have:=HLen.out;obtain rfl:r=[]:=List.length_eq_zero_iff.1 (by omega);rfl)
         obtain⟨q,c',e,h1,h2⟩:=RowArg.of_own h
         cases e;obtain⟨b',off',e,hb',hc⟩:=h2 (by simp)
         cases e;refine⟨b,off+3,by simp[wUA,hc3],hb',fun j u hj=>?_⟩;have:=hc (j+3) u (by simpa using hj);rw[Nat.add_assoc,Nat.add_comm 3 j];exact this)
       have HCut:=mEB (b:=b) (off:=off) (n:=n) (c:=c) (by have:=HLen.out;omega) hlc;have hn3:n - 3=r.length:=by have:=HLen.out;omega
       rw[hn3]at HCut;have hr9:(r.length:Int)≤252:=by have:=HLen.out;omega
       have hr0:(0:Int)≤(r.length:Int):=by omega
       have hrc:r.length≤c - 3:=by have:=HLen.out;omega
       clear hn3;have ha9:=a.toNat_lt;clear hlc hl2 hb hbl h3';have HB:=HB4;have d0:=HB.out.cell 0;have d1:=HB.out.cell 1;have d2:=HB.out.cell 2;have d3:=HB.out.cell 3;have d4:=HB.out.cell 4;have d5:=HB.out.cell 5;have g0:=HB.out.free 0;have g1:=HB.out.free 1;have g2:=HB.out.free 2;have g3:=HB.out.free 3;have g4:=HB.out.free 4;have g5:=HB.out.free 5;have dl:=HB.out.lt;by_cases hk3:a.toNat=3
       · have HPD := aA (show PD = (rH [] r).map fun c => ⟨3, a'.toNat, s2, [], [], c⟩ by rw [HD.out, Option.bind_some]; simp only [qU, if_pos hk3]); have hk3' : (a.toNat : Int) = 3 := by omega
         rw[hk3']at HB4 d0;clear hk3 hk3' HD d1 d2 d3 d4 d5 g0 g1 g2 g3 g4 g5 HB;obtain⟨i0,hi,hz0,hz1,hz2⟩:=info_parts Tryz.infoNds2C;go_wp2;clear d0 dl HCut;go_loopw [60] (fun i wr=>aDB w0 r a'.toNat s2 (.slice (some ⟨b,off,none⟩) n c) n ((⟨⟨[a]⟩⟩::⟨⟨[a']⟩⟩::s2::r:List ByteArray).map .string) i wr) (fun i _=>r.length - (intOf i).toNat)
         case atStart=>exact⟨0,[],[],_,Nat.zero_le _,rfl,rfl,rfl,HB4.out,lF _ _ _ _,Zip.nil _,HOw4.out,HU4.out⟩
         case round =>
           obtain⟨k,acc,us,vc,hk,rfl,hak,hcd,hbx,hvc,hz,how,hU⟩:=hrel;have hk0:(0:Int)≤(k:Int):=by omega
           have HB:=aA hbx;have HSw:=aA (show w0.heap.size+1≤wr.heap.size from hbx.lt);have HVc:=aA hvc;have HZ:=aA hz;have HOw:=aA how;have HU:=aA hU;have HAk:=aA hak;have HCd:=aA hcd;clear hbx hvc hz how hU hak hcd HB4 HOw4 HU4;by_cases hlt:k < r.length
           · have hlt' : (k : Int) < (r.length : Int) := by omega
             obtain⟨b',o',e,hb',cc⟩:=eEA (HTr.out wr HOw.out) hlt
             cases e;have HN:=aA (fun hp=>oFA (acc:=acc) hlt hp);have HM:=aA (fun x hp=>hHA (acc:=acc) (x:=x) hlt hp);have HUp:=aA (bGA (w0:=wr) r[k] (by have:=HL1.out r[k] (by simp);omega));have HOk:=aA (fun(l:List ByteArray) (hp:zC r[k]=some l)=>kM hp);generalize r[k]=s' at *;go_wp2_with fail;refine HUp.out.mono ?_;rintro e w2 ⟨hU2,hR⟩;have HB:=aA (HB.out.under hU2);have HVc:=aA (uA HVc.out hU2);have HZ:=aA (HZ.out.mono fun v x h=>h.under hU2);have HOw:=aA (uA HOw.out hU2);have HU:=aA (HU.out.trans hU2);have HS2:=aA hU2.size;clear hU2 cc hb' HUp
             cases hp:zC s' with
             | none =>
               rw[hp]at hR;subst hR;have HPD:=aA (show PD=none by rw[HPD.out,HCd.out,HN.out (by rw[hp];rfl)];rfl);have HDe:=aA (gW (w0:=w2) (c:=0) (p:=none) [] (by simp) (fun x hx=>(List.not_mem_nil hx).elim) (TextsV.nil _) (HX0.out.1.under HU.out) (HX0.out.2.under HU.out));clear hp;go_wp2_with fail;refine HDe.out.mono ?_;rintro e w3 ⟨hU3,v3,rfl,_⟩;have HB:=aA (HB.out.under hU3);have HU:=aA (HU.out.trans hU3);clear hU3 HDe;have d0:=HB.out.cell 0;have d1:=HB.out.cell 1;have d2:=HB.out.cell 2;have d3:=HB.out.cell 3;have d4:=HB.out.cell 4;have d5:=HB.out.cell 5;have g0:=HB.out.free 0;have g1:=HB.out.free 1;have g2:=HB.out.free 2;have g3:=HB.out.free 3;have g4:=HB.out.free 4;have g5:=HB.out.free 5;have dl:=HB.out.lt;go_wp2;refine kV rfl rfl rfl HB.out fun wf HX=>?_
               exact⟨_,by rw[HPD.out];rfl,by rw[HPD.out];exact wQ _ _,jC HU.out HX.out fun b hb=>by omega⟩
             | some l' =>
               rw[hp]at hR;obtain⟨v2,rfl,ho2⟩:=hR;obtain⟨ho1,ho3⟩:=HOk.out l' hp;obtain⟨q2,c2,rfl,hc2,hr2⟩:=RowArg.of_own ho2;have hT2:=TextsV.of_own ho2;have HDe:=aA (gW (w0:=w2) (c:=c2) (p:=q2) l' (by omega) (fun x hx=>by have:=ho1 x hx;omega) hT2 (HX0.out.1.under HU.out) (HX0.out.2.under HU.out));clear ho2 ho1 ho3 hc2 hr2 hT2;generalize l'.length=n2 at *;go_wp2_with fail;refine HDe.out.mono ?_;rintro e w3 ⟨hU3,hR3⟩;have HB:=aA (HB.out.under hU3);have HVc:=aA (uA HVc.out hU3);have HZ:=aA (HZ.out.mono fun v x h=>h.under hU3);have HOw:=aA (uA HOw.out hU3);have HU:=aA (HU.out.trans hU3);clear hU3 HDe
               cases hd:aF [] l' with
               | none =>
                 rw[hd]at hR3;subst hR3;have HPD:=aA (show PD=none by rw[HPD.out,HCd.out,HN.out (by rw[hp];exact hd)];rfl);clear hp hd;have d0:=HB.out.cell 0;have d1:=HB.out.cell 1;have d2:=HB.out.cell 2;have d3:=HB.out.cell 3;have d4:=HB.out.cell 4;have d5:=HB.out.cell 5;have g0:=HB.out.free 0;have g1:=HB.out.free 1;have g2:=HB.out.free 2;have g3:=HB.out.free 3;have g4:=HB.out.free 4;have g5:=HB.out.free 5;have dl:=HB.out.lt;go_wp2;refine kV rfl rfl rfl HB.out fun wf HX=>?_
                 exact⟨_,by rw[HPD.out];rfl,by rw[HPD.out];exact wQ _ _,jC HU.out HX.out fun b hb=>by omega⟩
               | some x =>
                 rw[hd]at hR3;obtain⟨v3,rfl,hv3⟩:=hR3;have HCd:=aA (show rH [] r=rH (acc++[x]) (r.drop (k+1)) by rw[HCd.out];exact HM.out x (by rw[hp];exact hd));have HX3:=aA (Ow2.base hv3 (Nat.le_trans HSw.out HS2.out));obtain⟨us3,ho3,_⟩:=hv3;obtain⟨q3,c3,rfl,_⟩:=RowArg.of_own ho3;clear hp hd ho3;have HAl:=HAk.out;have hmx:k+1≤maxLen:=by simp only[maxLen];omega
                 have hby:(k+1) * 24≤140737488355328:=by omega
                 have HMb:=aA (And.intro hmx hby);clear HAl hmx hby;have d0:=HB.out.cell 0;have d1:=HB.out.cell 1;have d2:=HB.out.cell 2;have d3:=HB.out.cell 3;have d4:=HB.out.cell 4;have d5:=HB.out.cell 5;have g0:=HB.out.free 0;have g1:=HB.out.free 1;have g2:=HB.out.free 2;have g3:=HB.out.free 3;have g4:=HB.out.free 4;have g5:=HB.out.free 5;have dl:=HB.out.lt;go_wp2_with (at_builtin;refine wpList_append_own_at _ rfl _ _ 31 rfl (w0.heap.size+1) 96 i0 _ 1 24 Tryz.underlying31 hi hz0 hz1 hz2 rfl (by decide) _ _ _ rfl (uA HVc.out (bA (Under.refl _) _)) ⟨w3.heap.size,0,none⟩ 1 1 [.slice q3 x.length c3] rfl rfl ?c1 ?c2 HMb.out.1 HMb.out.2 ?c5 ?_)
                 case c1=>exact tH (by simp) _ _
                 case c2=>intro u hu;simp at hu;subst hu;rfl
                 case c5=>have:=HB.out.lt;simp;omega
                 intro v' w4 hown hgrow hnil hat;obtain⟨q5,c5,rfl,_⟩:=RowArg.of_own hown;have HO':=aA hown;have hA:=bA (Under.refl w3) (.cells #[.slice q3 x.length c3] 96);have HB:=aA ((HB.out.under hA).grown hgrow fun e=>by have:=(jB HVc.out e.symm).1;omega);have HZ':=aA ((HZ.out.mono fun v x h=>(h.under hA).grown (uA HVc.out hA) hgrow (by decide) (by decide)).app (Zip.one ((HX3.out.under hA).grown (uA HVc.out hA) hgrow (by decide) (by decide))));have HOw:=aA (vE (uA HOw.out hA) hgrow (own_ne (uA HOw.out hA) (uA HVc.out hA) (by decide)));have HU:=aA (xA (HU.out.trans hA) hgrow fun g e=>by have:=(jB HVc.out e).1;omega);clear hown hgrow hnil hat hA d0 d1 d2 d3 d4 d5 g0 g1 g2 g3 g4 g5 dl;have d0:=HB.out.cell 0;have d1:=HB.out.cell 1;have d2:=HB.out.cell 2;have d3:=HB.out.cell 3;have d4:=HB.out.cell 4;have d5:=HB.out.cell 5;have g0:=HB.out.free 0;have g1:=HB.out.free 1;have g2:=HB.out.free 2;have g3:=HB.out.free 3;have g4:=HB.out.free 4;have g5:=HB.out.free 5;have dl:=HB.out.lt;have HC4:=aA ((Ch.refl (C:=fun b=>b=w0.heap.size) w4).set (fun _=>rfl) 5 (.slice q5 (k+1) c5));go_wp2;go_roundw
                 case rel=>exact⟨k+1,acc++[x],us++[_],_,by omega,by go_num,by rw[List.length_append,HAk.out];rfl,HCd.out,HB.out.set 5 _,xJ HO'.out HC4.out (fun g hg hc=>by have:=(jB HO'.out hg).1;omega),HZ'.out.mono (fun v x h=>Ow2.ch h HC4.out fun b hb=>by omega),xJ HOw.out HC4.out (fun g hg hc=>by have:=(jB HOw.out hg).1;omega),jC HU.out HC4.out fun b hb=>by omega⟩
                 case measure=>simp[intOf];omega
           · obtain rfl : k = r.length := by omega
             have HPD:=aA (show PD=some ⟨3,a'.toNat,s2,[],[],acc⟩ by rw[HPD.out,HCd.out,List.drop_length];rfl);obtain⟨q,c',rfl,_⟩:=RowArg.of_own HVc.out;have d0:=HB.out.cell 0;have d1:=HB.out.cell 1;have d2:=HB.out.cell 2;have d3:=HB.out.cell 3;have d4:=HB.out.cell 4;have d5:=HB.out.cell 5;have g0:=HB.out.free 0;have g1:=HB.out.free 1;have g2:=HB.out.free 2;have g3:=HB.out.free 3;have g4:=HB.out.free 4;have g5:=HB.out.free 5;have dl:=HB.out.lt;go_wp2;refine kV rfl rfl rfl HB.out fun wf HX=>?_
             exact⟨_,by rw[HPD.out];rfl,by rw[HPD.out];exact⟨_,_,_,rfl,lF _ _ _ _,lF _ _ _ _,Ow3.base (Ow3.ch (show Ow3 (w0.heap.size+1) wr (.slice q r.length c') acc from⟨us,by rw[HAk.out];exact HVc.out,HZ.out⟩) HX.out fun b hb=>by omega) (by omega)⟩,jC HU.out HX.out fun b hb=>by omega⟩
       · have HPD := aA (show PD = (aF [] r).bind (mQ a.toNat a'.toNat s2) by rw [HD.out, Option.bind_some]; simp only [qU, if_neg hk3]); have hk3' : ((a.toNat : Int) == 3) = false := by simp; omega
         have HK3:=aA hk3;have HDe:=aA (gW (w0:=wf) (c:=c - 3) r (by have:=HLen.out;omega) (fun x hx=>by have:=HL1.out x (by simp[hx]);omega) ⟨_,_,rfl,hrc,(fun e=>by cases e),HTr.out wf HOw4.out⟩ (HX0.out.1.under HU4.out) (HX0.out.2.under HU4.out));clear hk3 HD;go_wp2_with fail;refine HDe.out.mono ?_;rintro e w2 ⟨hU2,hR⟩;have HU:=aA (HU4.out.trans hU2);have HB:=aA (HB4.out.under hU2);have HSz:=aA (Nat.le_trans (show w0.heap.size+1≤wf.heap.size from by have:=HB4.out.lt;omega) (Nat.le_refl wf.heap.size));clear d0 d1 d2 d3 d4 d5 g0 g1 g2 g3 g4 g5 dl hU2 HDe HB4 HU4 HOw4 HOw HTr HCut;have d0:=HB.out.cell 0;have d1:=HB.out.cell 1;have d2:=HB.out.cell 2;have d3:=HB.out.cell 3;have d4:=HB.out.cell 4;have d5:=HB.out.cell 5;have g0:=HB.out.free 0;have g1:=HB.out.free 1;have g2:=HB.out.free 2;have g3:=HB.out.free 3;have g4:=HB.out.free 4;have g5:=HB.out.free 5;have dl:=HB.out.lt
         cases hdg:aF [] r with
         | none =>
           rw[hdg]at hR HPD;subst hR;have HPD:=aA (show PD=none from HPD.out);go_wp2;refine kV rfl rfl rfl HB.out fun wf HX=>?_
           exact⟨_,by rw[HPD.out];rfl,by rw[HPD.out];exact wQ _ _,jC HU.out HX.out fun b hb=>by omega⟩
         | some x =>
           rw[hdg]at hR HPD;obtain⟨v,rfl,us,hus,hz⟩:=hR;have HPD:=aA (show PD=mQ a.toNat a'.toNat s2 x from HPD.out);have HUs:=aA (wD (base':=w0.heap.size+1) hus HSz.out);have HZ:=aA (hz.mono fun v t h=>(show Ow1 (w0.heap.size+1) w2 v t from Ow1.base h HSz.out));clear hz hdg;by_cases hk1:a.toNat=1∧x.length=2
           · obtain ⟨hk1, hx2⟩ := hk1; obtain ⟨t, u, rfl⟩ : ∃ t u, x = [t, u] := by
              match x,hx2 with
              | [t,u],_=>exact⟨t,u,rfl⟩
             obtain⟨vt,h1,hvt⟩:=HZ.out.at (i:=0) (x:=t) rfl;obtain⟨vu,h2,hvu⟩:=HZ.out.at (i:=1) (x:=u) rfl;obtain⟨g,gc,rfl,hg,hgb,hgl,_,_⟩:=dE hus (by simp);have r0:=eD hus rfl h1;have r1:=eD hus rfl h2;obtain⟨qt,ct,rfl,_⟩:=RowArg.of_own hvt;obtain⟨qu,cu,rfl,_⟩:=RowArg.of_own hvu;have HVt:=aA hvt;have HVu:=aA hvu;have hgd:w0.heap.size < g:=by have:=HSz.out;omega
             have hk1':((a.toNat:Int)==1)=true:=by simp;omega
             have ha1:(a.toNat:Int)=1:=by omega
             have HPD:=aA (show PD=some ⟨1,a'.toNat,s2,t,u,[]⟩ by rw[HPD.out];simp only[mQ];rw[if_pos ha1]);rw[ha1]at HB d0;clear hvt hvu h1 h2 hus hk1 ha1 hgb HZ hx2;simp only[List.length_cons,List.length_nil];go_wp2_with fail;rename_i K0 hK0;refine wp_region_noPanic ?_;refine wp_region_held_drew (S:=fun w=>g < w.heap.size∧w.cell? ⟨g,0,none⟩=some (.slice qt t.length ct)∧w.cell? ⟨g,1,none⟩=some (.slice qu u.length cu)) (by kernel_rfl) ⟨hgl,r0,r1⟩ (fun hHeld=>?_);have hoth:∀(w:World) j v k,(w.setCell ⟨w0.heap.size,j,none⟩ v).cell? ⟨g,k,none⟩=w.cell? ⟨g,k,none⟩:=fun w j v k=>World.cell?_setCell_other _ _ _ _ (by intro h;simp only[Addr.mk.injEq]at h;omega)
             have HOth:=aA hoth;clear hoth;refine dA 0 rfl ?_;refine dA 1 rfl ?_;refine dA 2 rfl ?_;refine dA 3 rfl ?_;refine dA 4 rfl ?_;refine dA 5 rfl ?_;refine dA 6 rfl ?_
             try walk_nrm
             refine yA 7 (by kernel_rfl) rfl fun K hK=>?_
             go_simp;refine hK.out _ _ ⟨(show g < (w2.setCell _ _).heap.size from by rw[mAA];exact hgl),(HOth.out w2 3 _ 0).trans r0,(HOth.out w2 3 _ 1).trans r1⟩ (fun _=>?_);clear hK K hHeld;rename_i hHeld
             try walk_nrm
             refine dA 8 rfl ?_
             try walk_nrm
             refine yA 9 (by kernel_rfl) rfl fun K hK=>?_
             go_simp;obtain⟨w3,hw3⟩:∃ w3,w3=((w2.setCell ⟨w0.heap.size,3,none⟩ (.slice qt t.length ct)).setCell ⟨w0.heap.size,4,none⟩ (.slice qu u.length cu)).drew:=⟨_,rfl⟩;have HB3:=aA (show BoxAt w3 w0.heap.size 33 #[.int .i64 1,.int .i64 a'.toNat,.string s2,.slice qt t.length ct,.slice qu u.length cu,.slice none 0 0] by rw[hw3];exact eRA ((HB.out.set 3 _).set 4 _));have HC3:=aA (show Ch (fun b=>b=w0.heap.size) w2 w3 by rw[hw3];exact oWA (((Ch.refl (C:=fun b=>b=w0.heap.size) w2).set (fun _=>rfl) _ _).set (fun _=>rfl) _ _));have hcs:g < w3.heap.size∧w3.cell? ⟨g,0,none⟩=some (.slice qt t.length ct)∧w3.cell? ⟨g,1,none⟩=some (.slice qu u.length cu):=⟨Nat.lt_of_lt_of_le hgl HC3.out.size,by rw[hw3];exact((HOth.out _ 4 _ 0).trans (HOth.out w2 3 _ 0)).trans r0,by rw[hw3];exact((HOth.out _ 4 _ 1).trans (HOth.out w2 3 _ 1)).trans r1⟩;rw[← hw3];clear hw3;refine hK.out _ _ hcs (fun _=>?_);clear hK K hHeld;rename_i hHeld
             try walk_nrm
             refine wpAnyH_done (by kernel_rfl) ?_ _;refine NoPanic.normal ?_;clear hHeld hcs HOth r0 r1 hgl d0 d1 d2 d3 d4 d5 g0 g1 g2 g3 g4 g5 dl HB;have HB:=HB3;have d0:=HB.out.cell 0;have d1:=HB.out.cell 1;have d2:=HB.out.cell 2;have d3:=HB.out.cell 3;have d4:=HB.out.cell 4;have d5:=HB.out.cell 5;have g0:=HB.out.free 0;have g1:=HB.out.free 1;have g2:=HB.out.free 2;have g3:=HB.out.free 3;have g4:=HB.out.free 4;have g5:=HB.out.free 5;have dl:=HB.out.lt;refine hK0 _ _ ?_;clear hK0;go_wp2;refine kV rfl rfl rfl HB.out fun wf HX=>?_
             have HXX:=aA (HC3.out.trans HX.out (fun _ _ h=>h));exact⟨_,by rw[HPD.out];rfl,by rw[HPD.out];exact⟨_,_,_,rfl,(HVt.out.ch HXX.out (fun b hb=>by omega)).base (by omega),(HVu.out.ch HXX.out (fun b hb=>by omega)).base (by omega),[],lF _ _ _ _,Zip.nil _⟩,jC HU.out HXX.out fun b hb=>by omega⟩
           · by_cases hk2 : a.toNat = 2 ∧ x.length = 1
             · obtain ⟨hk2, hx1⟩ := hk2; obtain ⟨t, rfl⟩ : ∃ t, x = [t] := List.length_eq_one_iff.1 hx1; obtain ⟨vt, h1, hvt⟩ := HZ.out.at (i := 0) (x := t) rfl; obtain ⟨g, gc, rfl, hg, hgb, hgl, _, _⟩ := dE hus (by simp); have r0 := eD hus rfl h1; obtain ⟨qt, ct, rfl, _⟩ := RowArg.of_own hvt; have HVt := aA hvt; have hgd : w0.heap.size < g := by have := HSz.out; omega
               have hne:(⟨g,0,none⟩:Addr)≠⟨w0.heap.size,3,none⟩:=by intro h;simp only[Addr.mk.injEq]at h;omega
               have hk1':((a.toNat:Int)==1)=false:=by simp;omega
               have hk2':((a.toNat:Int)==2)=true:=by simp;omega
               have ha1:(a.toNat:Int)=2:=by omega
               have HPD:=aA (show PD=some ⟨2,a'.toNat,s2,t,[],[]⟩ by rw[HPD.out];simp only[mQ];rw[if_pos ha1]);rw[ha1]at HB d0;clear hvt h1 hus hk1 hk2 ha1 hgb HZ hx1;simp only[List.length_cons,List.length_nil];have HBo:=HB;have HB:=aA (HBo.out.set 3 (.slice qt t.length ct));go_wp2;refine kV rfl rfl rfl HB.out fun wf HX=>?_
               have HXX:=aA (((Ch.refl (C:=fun b=>b=w0.heap.size) w2).set (fun _=>rfl) 3 (.slice qt t.length ct)).trans HX.out (fun _ _ h=>h));exact⟨_,by rw[HPD.out];rfl,by rw[HPD.out];exact⟨_,_,_,rfl,(HVt.out.ch HXX.out (fun b hb=>by omega)).base (by omega),lF _ _ _ _,[],lF _ _ _ _,Zip.nil _⟩,jC HU.out HXX.out fun b hb=>by omega⟩
             · have HPD := aA (show PD = none by rw [HPD.out]; exact g3A (fun h => hk1 ⟨by omega, h.2⟩) (fun h => hk2 ⟨by omega, h.2⟩)); obtain ⟨q2, c2, rfl, _⟩ := RowArg.of_own hus; clear hus; generalize x.length = m at *; by_cases ha1 : a.toNat = 1
               · have hm : ((m : Int) == 2) = false := by simp; intro h; exact hk1 ⟨ha1, by omega⟩
                 have ha1':((a.toNat:Int)==1)=true:=by simp;omega
                 have ha2':((a.toNat:Int)==2)=false:=by simp;omega
                 clear hk1 hk2 ha1;go_wp2;refine kV rfl rfl rfl HB.out fun wf HX=>?_
                 exact⟨_,by rw[HPD.out];rfl,by rw[HPD.out];exact wQ _ _,jC HU.out HX.out fun b hb=>by omega⟩
               · have ha1' : ((a.toNat : Int) == 1) = false := by simp; omega
                 by_cases ha2:a.toNat=2
                 · have hm : ((m : Int) == 1) = false := by simp; intro h; exact hk2 ⟨ha2, by omega⟩
                   have ha2':((a.toNat:Int)==2)=true:=by simp;omega
                   clear hk1 hk2 ha1 ha2;go_wp2;refine kV rfl rfl rfl HB.out fun wf HX=>?_
                   exact⟨_,by rw[HPD.out];rfl,by rw[HPD.out];exact wQ _ _,jC HU.out HX.out fun b hb=>by omega⟩
                 · have ha2' : ((a.toNat : Int) == 2) = false := by simp; omega
                   clear hk1 hk2 ha1 ha2;go_wp2;refine kV rfl rfl rfl HB.out fun wf HX=>?_
                   exact⟨_,by rw[HPD.out];rfl,by rw[HPD.out];exact wQ _ _,jC HU.out HX.out fun b hb=>by omega⟩
     · have HPD := aA (show PD = none by rw [HD.out]; exact dYA hA); by_cases hA0 : s0.size = 1
       · have hA1 : (s1.size : Int) ≠ 1 := by intro h; exact hA ⟨hA0, by omega⟩
         have hA2:((s1.size:Int) != 1)=true:=by simpa using hA1
         have hA0':(s0.size:Int)=1:=by omega
         have hA3:((s0.size:Int) != 1)=false:=by simpa using hA0'
         clear hA hA0 hA1 hA0';go_wp2;refine kV rfl rfl rfl HB.out fun wf HX=>?_
         exact⟨_,by rw[HPD.out];rfl,by rw[HPD.out];exact wQ _ _,jC HU.out HX.out fun b hb=>by omega⟩
       · have hA2 : ((s0.size : Int) != 1) = true := by simp; omega
         clear hA hA0;go_wp2;refine kV rfl rfl rfl HB.out fun wf HX=>?_
         exact⟨_,by rw[HPD.out];rfl,by rw[HPD.out];exact wQ _ _,jC HU.out HX.out fun b hb=>by omega⟩
end
def iR : Nat → List (List (List Nd)) → Int
  | _,[] => -1
  | i,c::l=>if 6 < c.length then i else iR (i+1) l
def aK(l:List (List (List Nd))):Bool:=l.any fun c=>decide (6 < c.length)
theorem tOA{l:List (List (List Nd))}{k:Nat}(hk:k < l.length):iR k (l.drop k)=if 6 < l[k].length then(k:Int) else iR (k+1) (l.drop (k+1)):=by
 rw[List.drop_eq_getElem_cons hk];rfl
theorem lVA:∀(l:List (List (List Nd))) (i:Nat),decide (0≤iR i l)=aK l:=by
 intro l
 induction l with
 | nil=>intro i;simp[iR,aK]
 | cons n l ih =>
   intro i;have e:iR i (n::l)=if 6 < n.length then(i:Int) else iR (i+1) l:=rfl
   by_cases h:6 < n.length
   · simp only[e,aK,List.any_cons,h];simp
   · simp only[e,if_neg h,ih];simp[aK,h]
section
variable {w0 : World}
theorem iJA(l:List (List (List Nd))){v:Value}(hl:l.length≤5864062014634)(hv:ConsV w0 v l) :
 Calls Tryz.prog 80 #[v,.func (.func 46) #[] #[]] w0 fun e w'=>e = .returned (.int .i64 (iR 0 l))∧w0=w':=by
 obtain⟨p,c,vs,rfl,_,_,hp,hz⟩:=hv;have HP:=aA hp;have HZ:=aA hz;clear hp hz;go_enter Tryz.func80,Tryz.ntmps80;go_wp2
 go_loop [8] (fun i=>∃ k:Nat,k≤l.length∧i = .int .i64 k∧iR 0 l=iR k (l.drop k)) (fun i=>l.length - (intOf i).toNat)
 case atStart=>exact⟨0,Nat.zero_le _,rfl,by simp⟩
 case round =>
   obtain⟨k,hk,rfl,hN⟩:=hrel;have HN:=aA hN;clear hN;by_cases hlt:k < l.length
   · have hc := tOA hlt; have HC := aA hc; clear hc; obtain ⟨u, hu, q, c', us, rfl, _⟩ := HZ.out.at (List.getElem?_eq_getElem hlt); obtain ⟨b, off, rfl, hb, hcs⟩ := HP.out (fun e => by rw [e] at hu; simp at hu); have cc := hcs k _ hu; clear hcs hu; generalize l[k].length = n at *; by_cases h : 6 < n
     · have h' : (6 : Int) < (n : Int) := by omega
       have H:=aA h;clear h;go_wp2;go_ret;exact⟨kG (by rw[HN.out,HC.out,if_pos H.out]),rfl⟩
     · have h' : ¬ (6 : Int) < (n : Int) := by omega
       have H:=aA h;clear h;go_wp2
       go_round
       case rel=>exact⟨k+1,by omega,by go_num,by rw[HN.out,HC.out,if_neg H.out]⟩
       case measure=>simp[intOf];omega
   · go_wp2;go_ret;exact⟨kG (by rw[HN.out,List.drop_eq_nil_of_le (by omega)];rfl),rfl⟩
theorem eQA(l:List (List (List Nd))){v:Value}(hl:l.length≤5864062014634)(hv:ConsV w0 v l) :
 Calls Tryz.prog 45 #[v,.func (.func 46) #[] #[]] w0 fun e w'=>e = .returned (.bool (aK l))∧w0=w':=by
 have HB:=aA (lVA l 0);have HI:=aA (iJA l hl hv);obtain⟨p,c,vs,rfl,_⟩:=hv;go_enter Tryz.func45,Tryz.ntmps45;go_wp2_with fail;refine HI.out.mono ?_;rintro e w' ⟨rfl,rfl⟩;go_wp2;go_ret;exact⟨mI HB.out,rfl⟩
end
def tN(s:ByteArray):Bool:=uD s && !kwB s
def nC(t:Bool)(e:Int):Int:=if t then 0 else e
def StepOk(w:World)(fv:Value)(r:Int):Prop :=
 ∃ f caps,fv = .func (.func f) #[] caps∧(∀ args w,(callFunc f args).run Tryz.prog w = .ok (.enter f args) w)∧∀ w',Under w w'→Calls Tryz.prog f caps w' fun e w''=>e = .returned (.int .i64 r)∧Under w' w''
theorem StepOk.under{w w':World}{fv:Value}{r:Int}(h:StepOk w fv r)(hU:Under w w'):StepOk w' fv r:=by
 obtain⟨f,caps,h1,h2,h3⟩:=h;exact⟨f,caps,h1,h2,fun w'' h=>h3 w'' (hU.trans h)⟩
section
variable {w0 : World}
theorem iKA(s:ByteArray)(hs:s.size≤maxLen):Calls Tryz.prog 49 #[.string s] w0 fun e w=>e = .returned (.bool (tN s))∧Under w0 w:=by
 have HN:=aA (vI s w0 hs);have HK:=aA (cPA (w0:=w0) s);have hd:tN s=(uD s && !kwB s):=rfl;have HD:=aA hd;clear hd
 cases hn:uD s with
 | true =>
   rw[hn]at HD HN;clear hn;go_enter Tryz.func49,Tryz.ntmps49;go_wp2_with fail;refine HN.out.mono ?_;rintro e w1 ⟨rfl,rfl⟩;go_wp2_with fail;refine HK.out.mono ?_;rintro e w1 ⟨rfl,hU⟩;have HU:=aA hU;clear hU;go_wp2;go_ret;exact⟨mI (by rw[HD.out];rfl),HU.out⟩
 | false =>
   rw[hn]at HD HN;clear hn;go_enter Tryz.func49,Tryz.ntmps49;go_wp2_with fail;refine HN.out.mono ?_;rintro e w1 ⟨rfl,rfl⟩;go_wp2;go_ret;exact⟨mI (by rw[HD.out];rfl),Under.refl _⟩
theorem mNA{b1 b2:Nat}{t:Bool}{e:Int}(h1:BoxAt w0 b1 4 #[.bool t])(h2:BoxAt w0 b2 34 #[.int .i64 e]) :
 Calls Tryz.prog 81 #[.pointer (some ⟨b1,0,none⟩),.pointer (some ⟨b2,0,none⟩)] w0 fun x w=>x = .returned (.int .i64 (if t then 0 else e))∧Under w0 w:=by
 have c1:=h1.cell 0;have c2:=h2.cell 0;have l1:=h1.lt;have l2:=h2.lt;clear h1 h2
 cases t
 all_goals
  go_enter Tryz.func81,Tryz.ntmps81;go_wp2;go_ret;exact⟨rfl,Under.refl _⟩
theorem qK(t:Bool)(e:Int):Calls Tryz.prog 48 #[.bool t,.int .i64 e] w0 fun x w=>∃ b1 b2,x = .returned (.func (.func 81) #[] #[.pointer (some ⟨b1,0,none⟩),.pointer (some ⟨b2,0,none⟩)])∧StepOk w (.func (.func 81) #[] #[.pointer (some ⟨b1,0,none⟩),.pointer (some ⟨b2,0,none⟩)]) (nC t e)∧Under w0 w:=by
 have hB1:=(rA w0 #[.bool t] 4).alloc (.cells #[.int .i64 e] 34);have hB2:=rA (w0.alloc (.cells #[.bool t] 4)) #[.int .i64 e] 34;have hs1:(w0.alloc (.cells #[.bool t] 4)).heap.size=w0.heap.size+1:=by simp
 rw[hs1]at hB2;have hS:StepOk ((w0.alloc (.cells #[.bool t] 4)).alloc (.cells #[.int .i64 e] 34)) (.func (.func 81) #[] #[.pointer (some ⟨w0.heap.size,0,none⟩),.pointer (some ⟨w0.heap.size+1,0,none⟩)]) (nC t e) :=
  ⟨_,_,rfl,enters_of Tryz.func81 (by kernel_rfl) rfl,fun w' hU=>mNA (hB1.under hU) (hB2.under hU)⟩
 have HS:=aA hS;clear hB1 hB2 hs1 hS;go_enter Tryz.func48,Tryz.ntmps48;go_wp2;go_ret;exact⟨_,_,rfl,HS.out,bA (bA (Under.refl _) _) _⟩
def vD : List Int → Int
  | []=>0
  | r::l=>if r≠0 then r else vD l
theorem fZA(fs:List (Value×Int)){p:Option Addr}{c:Nat}(hn:fs.length≤1000)(hp:RowArg w0 p (fs.map (·.1)))(hf:∀ x∈fs,StepOk w0 x.1 x.2) :
 Calls Tryz.prog 47 #[.slice p fs.length c] w0 fun e w=>e = .returned (.int .i64 (vD (fs.map (·.2))))∧Under w0 w:=by
 have HP:=aA hp;have HF:=aA hf;clear hp hf;go_enter Tryz.func47,Tryz.ntmps47;go_wp2;go_loopw [8] (fun i wr=>∃ k:Nat,k≤fs.length∧i = .int .i64 k∧vD (fs.map (·.2))=vD ((fs.drop k).map (·.2))∧Under w0 wr) (fun i _=>fs.length - (intOf i).toNat)
 case atStart=>exact⟨0,Nat.zero_le _,rfl,by simp,Under.refl _⟩
 case round =>
   obtain⟨k,hk,rfl,hN,hU⟩:=hrel;have HN:=aA hN;have HU:=aA hU;clear hN hU;by_cases hlt:k < fs.length
   · obtain ⟨b, off, rfl, hb, hcs⟩ := HP.out (fun e => by have := congrArg List.length e; simp at this; rw [this] at hlt; simp at hlt); have cc := hcs k fs[k].1 (by simp [List.getElem?_eq_getElem hlt]); obtain ⟨f, caps, hfv, hen, hcall⟩ := HF.out fs[k] (List.getElem_mem hlt); rw [hfv, ← fA HU.out hb] at cc; have hb' := Nat.lt_of_lt_of_le hb HU.out.size; have hd : vD ((fs.drop k).map (·.2)) = if fs[k].2 ≠ 0 then fs[k].2 else vD ((fs.drop (k + 1)).map (·.2)) := by rw [List.drop_eq_getElem_cons hlt]; rfl
     have HD:=aA hd;have HC:=aA (hcall wr HU.out);clear hcs hfv hd hcall;generalize fs[k].2=r at *;by_cases hr:r=0
     · have hr' : (r != 0) = false := by simpa using hr
       have HR:=aA hr;clear hr;go_wp2_with fail;refine HC.out.mono ?_;rintro e w1 ⟨rfl,hU1⟩;have HU1:=aA hU1;clear hU1;go_wp2;go_roundw
       case rel=>exact⟨k+1,by omega,by go_num,by rw[HN.out,HD.out,if_neg (by rw[HR.out];simp)],HU.out.trans HU1.out⟩
       case measure=>simp[intOf];omega
     · have hr' : (r != 0) = true := by simpa using hr
       have HR:=aA hr;clear hr;go_wp2_with fail;refine HC.out.mono ?_;rintro e w1 ⟨rfl,hU1⟩;have HU1:=aA hU1;clear hU1;go_wp2;go_ret;exact⟨kG (by rw[HN.out,HD.out,if_pos HR.out]),HU.out.trans HU1.out⟩
   · obtain rfl : k = fs.length := by omega
     go_wp2;go_ret;exact⟨kG (by rw[HN.out,List.drop_length];rfl),HU.out⟩
end
def sD(t:List Nd):Int:=if gB t=0 then(if 0 < y9 t then 30 else 0) else gB t
section
variable {W0 w0 : World} {d : Dc} {v : Value}
theorem jQA{db:Nat}{cs:Array Value}(hd:Small d)(hv:DcV W0 (.agg cs) d)(hU:Under W0 w0)(hS:ShapesAt 3 W0)(hB:BoxAt w0 db 33 cs) :
 Calls Tryz.prog 84 #[.pointer (some ⟨db,0,none⟩)] w0 fun e w=>e = .returned (.int .i64 (vD ((aB d).map sD)))∧Under w0 w:=by
 have hv0:=DcV.mono _ _ _ _ hU hv;have HT:=aA (jKA (w0:=w0) hd hv0);obtain⟨vt,vb,vc,hcs,⟨pt,ct,rfl,_⟩,⟨pb,cb,rfl,_⟩,⟨pc,cc,us,rfl,_⟩⟩:=hv
 cases hcs;have c0:=hB.cell 0;have c1:=hB.cell 1;have c2:=hB.cell 2;have c3:=hB.cell 3;have c4:=hB.cell 4;have c5:=hB.cell 5;have hlt:=hB.lt;have HD:=aA hd;have HS:=aA (hS.under hU);clear hd hU hS hB hv0;go_enter Tryz.func84,Tryz.ntmps84;go_wp2_with fail;refine HT.out.mono ?_;rintro e w1 ⟨u,rfl,hu,hU1⟩;obtain⟨p,c,vs,rfl,hc,h0,hr,hz⟩:=hu;have HU1:=aA hU1;have HR:=aA hr;have HZ:=aA hz;have hln:(aB d).length≤5864062015660:=by
  have:=HD.out.flat;unfold aB
  split
  · simp
  · split
    · simp
    · split
      · omega
      · simp
 have HTm:=aA HD.out.terms;clear c0 c1 c2 c3 c4 c5 hU1 hr hz h0;generalize htsd:aB d=ts at *;have HTS:=aA htsd;clear htsd;go_wp2;go_loopw [9] (fun i wr=>∃ k:Nat,k≤ts.length∧i = .int .i64 k∧vD (ts.map sD)=vD ((ts.drop k).map sD)∧Under w1 wr) (fun i _=>ts.length - (intOf i).toNat)
 case atStart=>exact⟨0,Nat.zero_le _,rfl,by simp,Under.refl _⟩
 case round =>
   obtain⟨k,hk,rfl,hN,hU⟩:=hrel;by_cases hlt:k < ts.length
   · obtain ⟨u, hu, q, c', rfl, hc', h0', hr'⟩ := HZ.out.at (List.getElem?_eq_getElem hlt); obtain ⟨b, off, rfl, hb, hcs⟩ := HR.out (fun e => by rw [e] at hu; simp at hu); have cc := hcs k _ hu; rw [← fA hU hb] at cc; have hb' := Nat.lt_of_lt_of_le hb hU.size; have htm := HTm.out _ (List.getElem_mem hlt); have hd : vD ((ts.drop k).map sD) = if sD ts[k] ≠ 0 then sD ts[k] else vD ((ts.drop (k + 1)).map sD) := by rw [List.drop_eq_getElem_cons hlt]; rfl
     have HC:=aA (o1A (w0:=wr) (c:=c') (p:=q) (t:=ts[k]) hc' (by unfold maxLen;omega) (fun x hx=>htm.2 x hx) (hr'.under hU) ((HS.out.under HU1.out).under hU));have HN:=aA hN;have HDd:=aA hd;have HU:=aA hU;have hct:sD ts[k]=if gB ts[k]=0 then(if 0 < y9 ts[k] then 30 else 0) else gB ts[k]:=rfl
     clear hcs hr' hN hd hU hu htm;generalize ts[k]=t at *;unfold mWA at HC;by_cases hc0:gB t=0
     · rw [if_pos hc0] at hct; rw [if_pos hc0, hc0] at HC; by_cases hf : 0 < y9 t
       · rw[if_pos hf]at hct;have HCT:=aA hct;clear hct hc0;generalize y9 t=fn at *;go_wp2_with fail;refine HC.out.mono ?_;rintro e w2 ⟨rfl,hU2⟩;have HU2:=aA hU2;clear hU2;go_wp2;go_ret;exact⟨kG (by rw[HTS.out,HN.out,HDd.out,HCT.out];rfl),(HU1.out.trans HU.out).trans HU2.out⟩
       · rw [if_neg hf] at hct; have HCT := aA hct; clear hct hc0; generalize y9 t = fn at *; go_wp2_with fail; refine HC.out.mono ?_; rintro e w2 ⟨rfl, hU2⟩; have HU2 := aA hU2; clear hU2; go_wp2; go_roundw
         case rel=>exact⟨k+1,by omega,by go_num,by rw[HN.out,HDd.out,HCT.out];rfl,HU.out.trans HU2.out⟩
         case measure=>simp[intOf];omega
     · rw [if_neg hc0] at hct; rw [if_neg hc0] at HC; have HCT := aA hct; have HC0 := aA hc0; have b0 : (gB t == 0) = false := by simpa using hc0
       have b1:(gB t != 0)=true:=by simpa using hc0
       clear hct hc0;generalize gB t=ce at *;go_wp2_with fail;refine HC.out.mono ?_;rintro e w2 ⟨rfl,hU2⟩;have HU2:=aA hU2;clear hU2;go_wp2;go_ret;exact⟨kG (by rw[HTS.out,HN.out,HDd.out,HCT.out,if_pos HC0.out]),(HU1.out.trans HU.out).trans HU2.out⟩
   · obtain rfl : k = ts.length := by omega
     have HN:=aA hN;have HU:=aA hU;clear hN hU;go_wp2;go_ret;exact⟨kG (by rw[HTS.out,HN.out,List.drop_length];rfl),HU1.out.trans HU.out⟩
theorem iSA(hd:Small d)(hv:DcV w0 v d)(hS:ShapesAt 3 w0):Calls Tryz.prog 50 #[v] w0 fun x w=>∃ b,x = .returned (.func (.func 84) #[] #[.pointer (some ⟨b,0,none⟩)])∧StepOk w (.func (.func 84) #[] #[.pointer (some ⟨b,0,none⟩)]) (vD ((aB d).map sD))∧Under w0 w:=by
 have hv':=hv;obtain⟨vt,vb,vc,rfl,⟨pt,ct,rfl,_⟩,⟨pb,cb,rfl,_⟩,⟨pc,cc,us,rfl,_⟩⟩:=hv;have hB:=rA w0 #[.int .i64 d.kind,.int .i64 d.level,.string d.name,.slice pt d.type.length ct,.slice pb d.body.length cb,.slice pc d.cons.length cc] 33;have hU:=bA (Under.refl w0) (.cells #[.int .i64 d.kind,.int .i64 d.level,.string d.name,.slice pt d.type.length ct,.slice pb d.body.length cb,.slice pc d.cons.length cc] 33);have hS':StepOk _ (.func (.func 84) #[] #[.pointer (some ⟨w0.heap.size,0,none⟩)]) (vD ((aB d).map sD)) :=
  ⟨_,_,rfl,enters_of Tryz.func84 (by kernel_rfl) rfl,fun w' hU'=>jQA hd hv' (hU.trans hU') hS (hB.under hU')⟩
 have HS:=aA hS';have HU:=aA hU;clear hd hv' hS hB hU hS';go_enter Tryz.func50,Tryz.ntmps50;go_wp2;go_ret;exact⟨_,rfl,HS.out,HU.out⟩
end
end Go.Proofs.YtggjbblgoddnjaaGreatDoor
