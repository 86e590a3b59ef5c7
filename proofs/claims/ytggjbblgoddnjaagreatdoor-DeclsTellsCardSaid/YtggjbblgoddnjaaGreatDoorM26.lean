/- Part 26 of what the proof rests on. -/
import Derived.Test.YtggjbblgoddnjaaGreatDoorM25
set_option linter.unusedSimpArgs false
set_option linter.unusedVariables false
set_option maxRecDepth 100000
set_option maxHeartbeats 4000000
namespace Go.Proofs.YtggjbblgoddnjaaGreatDoor
open Go.Lx Go.RowKit
section
variable {w0 : World} {t : List Nd} {b off c n k : Nat} {va vo : Value} {all op : List (Nat × Nat)}
def yPA(w0:World)(t:List Nd)(l:Value)(n k:Nat)(a:Act)(w:World):Prop:=∃ va vo all op J,a=⟨sG l va vo n k J,[]⟩∧MI w0 t va vo k all op w
def wUA(v:Value)(b:Bool)(J:Nat→Value):Array Value:=#[J 0,J 1,v,.bool b,J 4,J 5,J 6,J 7,J 8,J 9,J 10,J 11,J 12,J 13,J 14,J 15,J 16,J 17,J 18,J 19,J 20,J 21,J 22,J 23,J 24,J 25,J 26,J 27,J 28,J 29,J 30,J 31,J 32,J 33,J 34,J 35,J 36,J 37,J 38,J 39,J 40,J 41,J 42,J 43,J 44,J 45,J 46,J 47,J 48,J 49,J 50,J 51,J 52,J 53,J 54,J 55,J 56,J 57,J 58,J 59,J 60,J 61,J 62,J 63,J 64,J 65,J 66,J 67,J 68,J 69,J 70,J 71,J 72]
def j5A(w0:World)(e:Exit)(a:Act)(w:World):Prop:=e = .ret∧∃ J,a=⟨wUA (.slice none 0 0) false J,[]⟩∧Under w0 w
theorem d3A {x : Nd} (hk : k < n) (hn : n ≤ 4000) (hx : t[k]? = some x) (hbad : yA x = false ∨ op.length < (binds x).length) (J : Nat → Value) (w : World) (hM : MI w0 t va vo k all op w)
    (hR:∀ w1,Under w0 w1→Calls Tryz.prog 179 #[ndV x] w1 fun e w'=>e = .returned (.bool (yA x))∧Under w1 w')
    (hN:yA x=true→∀ w1,Under w0 w1→Calls Tryz.prog 182 #[ndV x] w1 fun e w'=>e = .returned (.int .i64 ((binds x).length:Nat))∧Under w1 w')
    (hb:b < w0.heap.size) (c0:w0.cell? ⟨b,off+k * 4,none⟩=some (.int .i64 x.k)) (c1:w0.cell? ⟨b,off+k * 4+1,none⟩=some (.int .i64 x.n)) (c2:w0.cell? ⟨b,off+k * 4+2,none⟩=some (.int .i64 x.m)) (c3:w0.cell? ⟨b,off+k * 4+3,none⟩=some (.string x.s)) :
    msRound.wp Tryz.prog (Exit.then (fun _ _=>False) (j5A w0)) ⟨sG (.slice (some ⟨b,off,none⟩) n c) va vo n k J,[]⟩ w:=by
  rw[← dA hM.low hb]at c0 c1 c2 c3;have hb':=Nat.lt_of_lt_of_le hb hM.low.size;obtain⟨q,co,rfl,_,_⟩:=RowArg.of_own hM.op_;have HB:=Lib.hid (qA w #[.int .i64 x.k,.int .i64 x.n,.int .i64 x.m,.string x.s] 112);have HU:=Lib.hid (aA hM.low (.cells #[.int .i64 x.k,.int .i64 x.n,.int .i64 x.m,.string x.s] 112));have HC:=Lib.hid (hR _ HU.out);have hk':(k:Int) < n:=by omega
  have hk0:(0:Int)≤k:=Int.natCast_nonneg _;have hol:op.length≤4000:=by have:=hM.ol;omega
  clear hM hR hk hx;by_cases hr:yA x=true
  · have hl : op.length < (binds x).length := by rcases hbad with h | h; · rw [hr] at h; cases h
                                                 · exact h
    have hl':(op.length:Int) < ((binds x).length:Nat):=by omega
    have HN:=Lib.hid (hN hr);rw[hr]at HC;clear hbad hl hr hN;unfold msRound zN cO;simp only[Tryz.f166,Option.getD_some,xA,jA,aD];unfold sG;go_wp2_with fail;refine HC.out.mono ?_;rintro e w1 ⟨rfl,hU1⟩;have hB1:=HB.out.under hU1;have e0:=hB1.cell 0;have e1:=hB1.cell 1;have e2:=hB1.cell 2;have e3:=hB1.cell 3;have hlt1:=hB1.lt;have HU1:=Lib.hid hU1;have HM1:=Lib.hid (HN.out w1 (HU.out.trans hU1));clear hU1 hB1;go_wp2_with fail;refine HM1.out.mono ?_;rintro e w2 ⟨rfl,hU2⟩;have HU2:=Lib.hid hU2;clear hU2 e0 e1 e2 e3;go_wp2;exact⟨rfl,bB (F:=wUA _ false) (by rfl) ((HU.out.trans HU1.out).trans HU2.out)⟩
  · have hr' : yA x = false := by simpa using hr
    rw[hr']at HC;clear hbad hr hr' hN;unfold msRound zN cO;simp only[Tryz.f166,Option.getD_some,xA,jA,aD];unfold sG;go_wp2_with fail;refine HC.out.mono ?_;rintro e w1 ⟨rfl,hU1⟩;have HU1:=Lib.hid hU1;clear hU1;go_wp2;exact⟨rfl,bB (F:=wUA _ false) (by rfl) (HU.out.trans HU1.out)⟩
def n1A(w0:World)(t:List Nd)(l:Value)(n:Nat)(e:Exit)(a:Act)(w:World):Prop:=e = .exit 0∧yPA w0 t l n n a w
theorem o0A{l:Value}(J:Nat→Value)(w:World)(hM:MI w0 t va vo n all op w) :
 msRound.wp Tryz.prog (Exit.then (fun _ _=>False) (n1A w0 t l n)) ⟨sG l va vo n n J,[]⟩ w:=by
 have HM:=Lib.hid hM;clear hM;unfold msRound zN cO;simp only[Tryz.f166,Option.getD_some,xA,jA,aD];unfold sG;go_wp2;exact⟨rfl,va,vo,all,op,bB (F:=sG _ va vo n n) (by rfl) HM.out⟩
end
section
variable {w0 : World} {t : List Nd} {b off c n k : Nat} {va vo : Value} {all op : List (Nat × Nat)}
theorem wAA(l:List (Nat×Nat))(k:Nat):yC (l.drop k)=(yC l).drop (k * 2):=by
 induction k generalizing l with
 | zero=>simp
 | succ k ih => cases l with
   | nil=>simp[yC]
   | cons x l=>rw[List.drop_succ_cons,ih,show(k+1) * 2=k * 2+2 by omega];rfl
theorem xM(l:List (Nat×Nat))(k:Nat):yC (l.take k)=(yC l).take (k * 2):=by
 induction k generalizing l with
 | zero=>simp[yC]
 | succ k ih => cases l with
   | nil=>simp[yC]
   | cons x l=>rw[List.take_succ_cons,show(k+1) * 2=k * 2+2 by omega];simp[yC,ih]
inductive OpenAt (vo : Value) (kk bl : Nat) : Prop
  | nil (h:vo = .slice none 0 0) (hk:kk=0) (hb:bl=0)
  | full (g:Nat) (h:vo = .slice (some ⟨g,0,none⟩) kk kk) (hb:bl=0)
  | some (g co:Nat) (h:vo = .slice (some ⟨g,0,none⟩) (kk+bl) co) (hc:kk+bl≤co) (hk:kk < co) (hco:co≤maxLen)
theorem m3A {x : Nd} {kk bl : Nat} (hk : k < n) (hn : n ≤ 4000) (hx : t[k]? = some x) (hr : yA x = true) (hbl : (binds x).length = bl) (hkk : op.length = kk + bl) (hd : ∀ y ∈ op, y.2 ≤ 4000) (J : Nat → Value) (w : World) (hM : MI w0 t va vo k all op w)
    (hR:∀ w1,Under w0 w1→Calls Tryz.prog 179 #[ndV x] w1 fun e w'=>e = .returned (.bool true)∧Under w1 w')
    (hN:∀ w1,Under w0 w1→Calls Tryz.prog 182 #[ndV x] w1 fun e w'=>e = .returned (.int .i64 (bl:Nat))∧Under w1 w')
    (hb:b < w0.heap.size) (c0:w0.cell? ⟨b,off+k * 4,none⟩=some (.int .i64 x.k)) (c1:w0.cell? ⟨b,off+k * 4+1,none⟩=some (.int .i64 x.n)) (c2:w0.cell? ⟨b,off+k * 4+2,none⟩=some (.int .i64 x.m)) (c3:w0.cell? ⟨b,off+k * 4+3,none⟩=some (.string x.s)) :
    msRound.wp Tryz.prog (Exit.then (yPA w0 t (.slice (some ⟨b,off,none⟩) n c) n (k+1)) (fun _ _ _=>False)) ⟨sG (.slice (some ⟨b,off,none⟩) n c) va vo n k J,[]⟩ w:=by
  obtain⟨i0,hi,hz0,hz1,hz2⟩:=info_parts Tryz.info256;rw[← dA hM.low hb]at c0 c1 c2 c3;have hb':=Nat.lt_of_lt_of_le hb hM.low.size;have hO:OpenAt vo kk bl:=by
   rcases hM.op_.2 with⟨rfl,h0⟩ | ⟨g,co,cur,rfl,hgb,hgg,hle,hml,_⟩
   · exact .nil rfl (by omega) (by omega)
   · rw [hkk] at hle ⊢; by_cases hc : kk < co
     · exact .some g co rfl hle hc hml
     · obtain rfl : bl = 0 := by omega
       obtain rfl:co=kk:=by omega
       exact .full g rfl rfl
  have HB:=Lib.hid (qA w #[.int .i64 x.k,.int .i64 x.n,.int .i64 x.m,.string x.s] 112);have HU:=Lib.hid (aA hM.low (.cells #[.int .i64 x.k,.int .i64 x.n,.int .i64 x.m,.string x.s] 112));have HC:=Lib.hid (hR _ HU.out);have HN:=Lib.hid hN;have HM:=Lib.hid hM;have HK:=Lib.hid hkk;have HD:=Lib.hid hd;have hk':(k:Int) < n:=by omega
  have hk0:(0:Int)≤k:=Int.natCast_nonneg _;have hol:kk+bl≤4000:=by have:=hM.ol;omega
  have hbl8:bl≤8:=by have:=gK hr;omega
  have HX:=Lib.hid hx;have HR:=Lib.hid hr;have HBL:=Lib.hid hbl;clear hM hR hN hk hkk hd hx hr hbl;rcases hO with⟨rfl,rfl,rfl⟩ | ⟨g,rfl,rfl⟩ | ⟨g,co,rfl,hc,hkc,hco⟩
  · unfold msRound zN cO; simp only [Tryz.f166, Option.getD_some, xA, jA, aD]; unfold sG; go_wp2_with fail; refine HC.out.mono ?_; rintro e w1 ⟨rfl, hU1⟩; have hB1 := HB.out.under hU1; have e0 := hB1.cell 0; have e1 := hB1.cell 1; have e2 := hB1.cell 2; have e3 := hB1.cell 3; have hlt1 := hB1.lt; have HU1 := Lib.hid hU1; have HB1 := Lib.hid hB1; have HM1 := Lib.hid (HN.out w1 (HU.out.trans hU1)); clear hU1 hB1; go_wp2_with fail; refine HM1.out.mono ?_; rintro e w2 ⟨rfl, hU2⟩; have hB2 := HB1.out.under hU2; have HU2 := Lib.hid hU2; have HM2 := Lib.hid (HN.out w2 ((HU.out.trans HU1.out).trans hU2)); clear e0 e1 e2 e3; have e0 := hB2.cell 0; have e1 := hB2.cell 1; have e2 := hB2.cell 2; have e3 := hB2.cell 3; have hlt2 := hB2.lt; clear hU2 hB2; go_wp2_with fail; refine HM2.out.mono ?_; rintro e w3 ⟨rfl, hU3⟩; have HU3 := Lib.hid hU3; clear e0 e1 e2 e3 hU3; go_wp2; rename_i K hK; have hUw3 := ((HU.out.trans HU1.out).trans HU2.out).trans HU3.out; have hUw := ((aA (Under.refl w) (.cells #[.int .i64 x.k, .int .i64 x.n, .int .i64 x.m, .string x.s] 112)).trans HU1.out).trans (HU2.out.trans HU3.out); have hls : (op.drop 0).length = 0 := by have := HK.out; rw [List.length_drop]; omega
    have hA3 := dC HM.out.all_ hUw; have HL := fun p1 c1 => eZ (W1 := w3) (l := .slice (some ⟨b, off, none⟩) n c) (va := va) (vo := .slice none 0 0) (n := n) (k := k) (kk := 0) (b9 := w3.heap.size) (op.drop 0) (p := p1) (c := c1) (i := k) (by omega) (Nat.le_refl _) (fun y hy => HD.out y (List.mem_of_mem_drop hy))
      (fun hne=>absurd (List.eq_nil_of_length_eq_zero (by rw[nO,hls])) hne)
    simp only[hls]at HL;refine wp_mono (HL _ _ 0 _ _ ⟨0,by omega,bB (F:=aH _ _ _ _ _ _ _ _ 0 0) (by rfl) ⟨aA (Under.refl _) _,qA w3 _ _⟩⟩) ?_;rintro e a' w4 ⟨rfl,J',rfl,hU4,hB4⟩;simp only[Exit.inBlock,if_pos,Exit.then];refine hK _ _ ?_;clear hK HL;have hm4:meas k (op.drop 0)=meas k (op.drop 0):=rfl;generalize hf:(meas k (op.drop 0)).1=f at hB4;generalize hd:(meas k (op.drop 0)).2=d at hB4;have hO4:=World.ownsRow_nil w4 w0.heap.size 256 2;have hA4:=dC hA3 hU4;have e0:=hB4.cell 0;have e1:=hB4.cell 1;have h9:=hB4.lt;have hb4:=Nat.le_trans hUw3.size hU4.size;have hu4:=hUw3.trans hU4;have hmx:0+1≤maxLen:=by simp only[maxLen];omega
    have hby:(0+1) * 16≤140737488355328:=by omega
    have HM4 := Lib.hid hm4; have HF := Lib.hid hf; have HDd := Lib.hid hd; have HO4 := Lib.hid hO4; have HA4 := Lib.hid hA4; have HU4 := Lib.hid hu4; have HB4 := Lib.hid hB4; clear hm4 hf hd hO4 hA4 hu4 hB4 hA3 hUw hUw3 hls hU4; unfold aH; go_wp2_with fail; go_region_held3 (fun w' => w'.cell? ⟨w3.heap.size, 0, none⟩ = some (.int .i64 (f : Int)) ∧ w'.cell? ⟨w3.heap.size, 1, none⟩ = some (.int .i64 (d : Int)))
      (first
        | go_keep
        | (go_split_ands
           refine⟨?_,?_⟩
           · (rw[hgrow.cell_far _ (by simp;omega) (by simp[Value.ownBlock]<;>omega)];assumption)
           · (rw[hgrow.cell_far _ (by simp;omega) (by simp[Value.ownBlock]<;>omega)];assumption)))
      ((refine step_append_lies _ (by rfl) _ _ _ (by rfl) w0.heap.size 256 i0 _ 2 16 Tryz.underlying226 hi hz0 hz1 hz2 rfl (by omega) (.slice none 0 0) 0 [] (by rfl) ((HO4.out.alloc _).drew)
          ⟨w4.heap.size,0,none⟩ 1 1 [.int .i64 (f:Int),.int .i64 (d:Int)] (by rfl) (by rfl) (World.news_of_block (cs:=#[.int .i64 (f:Int),.int .i64 (d:Int)]) (t:=256) (fr:=(0,0)) (qA w4 _ _)) (by simp[Value.oneCell'])
          (by omega) hmx hby (by simp;omega) (w4.heap.size+1) (by simp) ?_;intro gg cc w5 hown5 hgrow hat hlt))
    have hne5:va.ownBlock=none∨va.ownBlock≠(Value.slice none 0 0).ownBlock:=HM.out.ne;have hA5:=oC ((HA4.out.alloc _).drew) hgrow hne5;have hB5:=((HB4.out.alloc _).drew).grown hgrow (by simp[Value.ownBlock]<;>omega);have hU5:=rA (fA (aA HU4.out _)) hgrow (fun g' e=>by cases e);clear e0 e1;have e0:=hB5.cell 0;have e1:=hB5.cell 1;have h95:=hB5.lt;have hz5:=hU5.size;have hgg:va.ownBlock=none∨va.ownBlock≠some gg:=by
     rcases hat with e | rfl
     · rw[← e];exact hne5
     · cases hv : va.ownBlock with
       | none=>exact .inl rfl
       | some g'=>right;intro e;cases e;have:=(vB HA4.out hv).2;omega
    have hk4:all.length+1≤maxLen:=by have:=HM.out.al;simp only[maxLen];omega
    have hb4:(all.length+1) * 16≤140737488355328:=by have:=HM.out.al;omega
    have HA5:=Lib.hid hA5;have HU5:=Lib.hid hU5;have HO5:=Lib.hid hown5;have HG:=Lib.hid hgg;clear hA5 hB5 hU5 hown5 hgg hne5 hat hgrow;go_wp2_with (at_builtin;refine wpList_append_own_at _ rfl _ _ 226 rfl w0.heap.size 256 i0 _ 2 16 Tryz.underlying226 hi hz0 hz1 hz2 rfl (by decide) _ _ _ rfl (HA5.out.alloc _) ⟨w5.heap.size,0,none⟩ 1 1 [.int .i64 (f:Int),.int .i64 (d:Int)] rfl rfl ?c1 ?c2 hk4 hb4 ?c5 ?_)
    case c1 =>
      intro j u hj
      match j,hj with
      | 0,hj=>cases hj;simp[Addr.add]
      | 1,hj=>cases hj;simp[Addr.add]
    case c2=>intro u hu;simp at hu;rcases hu with rfl | rfl<;>rfl
    case c5=>simp;omega
    intro v' w6 hown6 hgrow6 hnil6 hat6; have hO6 := oC (HO5.out.alloc (.cells #[.int .i64 (f : Int), .int .i64 (d : Int)] 256)) hgrow6 (by
      rcases HG.out with e | e
      · right;rw[e];simp[Value.ownBlock]
      · right;exact fun e'=>e e'.symm)
    have hne6:v'.ownBlock=none∨v'.ownBlock≠(Value.slice (some ⟨gg,0,none⟩) (0+1) cc).ownBlock:=by
     rcases hat6 with e | e
     · rw[e];exact HG.out
     · right;rw[e];have:=hlt;simp[Value.ownBlock];omega
    have hU6:=rA (aA HU5.out (.cells #[.int .i64 (f:Int),.int .i64 (d:Int)] 256)) hgrow6 (fun g' e=>(vB HA5.out e).1);have HM6:MI w0 t v' (.slice (some ⟨gg,0,none⟩) (0+1) cc) (k+1) (all++[(f,d)]) (op.take 0++[(f,d)]) w6:=by
     have htl:(op.take 0++[(f,d)]).length=0+1:=by rw[List.length_append,List.length_take,HK.out];simp
     refine ⟨by rw [List.length_append, oH]; exact hown6, by rw [htl, oH, xM]; exact hO6, hne6, hU6, ?_, by rw [List.length_append, HM.out.al]; rfl, by rw [htl]; have := HM.out.ol; rw [HK.out] at this; omega, fun y hy => by
       rcases List.mem_append.1 hy with h | h
       · have:=HM.out.dp y (List.mem_of_mem_take h);omega
       · rw[List.mem_singleton.1 h];show d≤k+1;rw[← HDd.out];exact pGA fun y hy=>HM.out.dp y (List.mem_of_mem_drop hy)⟩
     rw[← HM.out.res];obtain⟨hkt,hx⟩:=List.getElem?_eq_some_iff.1 HX.out;rw[List.drop_eq_getElem_cons hkt,hx]
     show _=if yA x=false∨op.length < (binds x).length then none else wC (t.drop (k+1)) (k+1) (all++[meas k (op.drop (op.length - (binds x).length))]) (op.take (op.length - (binds x).length)++[meas k (op.drop (op.length - (binds x).length))])
     have e:op.length - (binds x).length=0:=by have h1:=HK.out;have h2:=HBL.out;omega
     have e':meas k (op.drop 0)=(f,d):=Prod.ext HF.out HDd.out;rw[if_neg (by rw[HR.out,HK.out,HBL.out];simp),e,e']
    have HM7:=Lib.hid HM6;clear hO6 hne6 hU6 HM6 hown6 hgrow6 hnil6 hat6;go_wp2;exact⟨v',_,_,_,bB (F:=sG _ v' _ n (k+1)) (by rfl) HM7.out⟩
  · unfold msRound zN cO; simp only [Tryz.f166, Option.getD_some, xA, jA, aD]; unfold sG; have i1 : (0 : Int) ≤ kk := Int.natCast_nonneg _; have i3 : (kk : Int) ≤ 4000 := by omega
    go_wp2_with fail;refine HC.out.mono ?_;rintro e w1 ⟨rfl,hU1⟩;have hB1:=HB.out.under hU1;have e0:=hB1.cell 0;have e1:=hB1.cell 1;have e2:=hB1.cell 2;have e3:=hB1.cell 3;have hlt1:=hB1.lt;have HU1:=Lib.hid hU1;have HB1:=Lib.hid hB1;have HM1:=Lib.hid (HN.out w1 (HU.out.trans hU1));clear hU1 hB1;go_wp2_with fail;refine HM1.out.mono ?_;rintro e w2 ⟨rfl,hU2⟩;have hB2:=HB1.out.under hU2;have HU2:=Lib.hid hU2;have HM2:=Lib.hid (HN.out w2 ((HU.out.trans HU1.out).trans hU2));clear e0 e1 e2 e3;have e0:=hB2.cell 0;have e1:=hB2.cell 1;have e2:=hB2.cell 2;have e3:=hB2.cell 3;have hlt2:=hB2.lt;clear hU2 hB2;go_wp2_with fail;refine HM2.out.mono ?_;rintro e w3 ⟨rfl,hU3⟩;have HU3:=Lib.hid hU3;clear e0 e1 e2 e3 hU3;go_wp2;rename_i K hK;have hUw3:=((HU.out.trans HU1.out).trans HU2.out).trans HU3.out;have hUw:=((aA (Under.refl w) (.cells #[.int .i64 x.k,.int .i64 x.n,.int .i64 x.m,.string x.s] 112)).trans HU1.out).trans (HU2.out.trans HU3.out);have hls:(op.drop kk).length=0:=by have:=HK.out;rw[List.length_drop];omega
    have hO3 := dC HM.out.op_ hUw; rw [HK.out] at hO3; have hA3 := dC HM.out.all_ hUw; have hgl : g < w3.heap.size := (vB hO3 rfl).2; have HL := fun p1 c1 => eZ (W1 := w3) (l := .slice (some ⟨b, off, none⟩) n c) (va := va) (vo := .slice (some ⟨g, 0, none⟩) kk kk) (n := n) (k := k) (kk := kk) (b9 := w3.heap.size) (op.drop kk) (p := p1) (c := c1) (i := k) (by omega) (Nat.le_refl _) (fun y hy => HD.out y (List.mem_of_mem_drop hy))
      (fun hne=>absurd (List.eq_nil_of_length_eq_zero (by rw[nO,hls])) hne)
    simp only[hls]at HL;refine wp_mono (HL _ _ 0 _ _ ⟨0,by omega,bB (F:=aH _ _ _ _ _ _ _ _ 0 0) (by rfl) ⟨aA (Under.refl _) _,qA w3 _ _⟩⟩) ?_;rintro e a' w4 ⟨rfl,J',rfl,hU4,hB4⟩;simp only[Exit.inBlock,if_pos,Exit.then];refine hK _ _ ?_;clear hK HL;have hm4:meas k (op.drop kk)=meas k (op.drop kk):=rfl;generalize hf:(meas k (op.drop kk)).1=f at hB4;generalize hd:(meas k (op.drop kk)).2=d at hB4;have hO4:=nN (dC hO3 hU4) (m:=kk) (Nat.le_refl kk);have hA4:=dC hA3 hU4;have e0:=hB4.cell 0;have e1:=hB4.cell 1;have h9:=hB4.lt;have hgl4:=Nat.lt_of_lt_of_le hgl hU4.size;have hb4:=Nat.le_trans hUw3.size hU4.size;have hu4:=hUw3.trans hU4;have hmx:kk+1≤maxLen:=by simp only[maxLen];omega
    have hby:(kk+1) * 16≤140737488355328:=by omega
    have hgne:g≠w3.heap.size:=by omega
    have HM4 := Lib.hid hm4; have HF := Lib.hid hf; have HDd := Lib.hid hd; have HO4 := Lib.hid hO4; have HA4 := Lib.hid hA4; have HU4 := Lib.hid hu4; have HB4 := Lib.hid hB4; clear hm4 hf hd hO4 hA4 hu4 hB4 hO3 hA3 hUw hUw3 hls hU4; unfold aH; go_wp2_with fail; go_region_held3 (fun w' => w'.cell? ⟨w3.heap.size, 0, none⟩ = some (.int .i64 (f : Int)) ∧ w'.cell? ⟨w3.heap.size, 1, none⟩ = some (.int .i64 (d : Int)))
      (first
        | go_keep
        | (go_split_ands
           refine⟨?_,?_⟩
           · (rw[hgrow.cell_far _ (by simp;omega) (by simp[Value.ownBlock]<;>omega)];assumption)
           · (rw[hgrow.cell_far _ (by simp;omega) (by simp[Value.ownBlock]<;>omega)];assumption)))
      ((refine step_append_lies _ (by rfl) _ _ _ (by rfl) w0.heap.size 256 i0 _ 2 16 Tryz.underlying226 hi hz0 hz1 hz2 rfl (by omega) (.slice (some ⟨g, 0, none⟩) kk kk) kk ((yC op).take (kk * 2)) (by rfl) ((HO4.out.alloc _).drew)
          ⟨w4.heap.size,0,none⟩ 1 1 [.int .i64 (f:Int),.int .i64 (d:Int)] (by rfl) (by rfl) (World.news_of_block (cs:=#[.int .i64 (f:Int),.int .i64 (d:Int)]) (t:=256) (fr:=(0,0)) (qA w4 _ _)) (by simp[Value.oneCell'])
          (by omega) hmx hby (by simp;omega) (w4.heap.size+1) (by simp) ?_;intro gg cc w5 hown5 hgrow hat hlt))
    have hne5:va.ownBlock=none∨va.ownBlock≠(Value.slice (some ⟨g,0,none⟩) kk kk).ownBlock:=HM.out.ne;have hA5:=oC ((HA4.out.alloc _).drew) hgrow hne5;have hB5:=((HB4.out.alloc _).drew).grown hgrow (by simp[Value.ownBlock]<;>omega);have hU5:=rA (fA (aA HU4.out _)) hgrow (fun g' e=>(vB HO4.out e).1);clear e0 e1;have e0:=hB5.cell 0;have e1:=hB5.cell 1;have h95:=hB5.lt;have hz5:=hU5.size;have hgg:va.ownBlock=none∨va.ownBlock≠some gg:=by
     rcases hat with e | rfl
     · rw[← e];exact hne5
     · cases hv : va.ownBlock with
       | none=>exact .inl rfl
       | some g'=>right;intro e;cases e;have:=(vB HA4.out hv).2;omega
    have hk4:all.length+1≤maxLen:=by have:=HM.out.al;simp only[maxLen];omega
    have hb4:(all.length+1) * 16≤140737488355328:=by have:=HM.out.al;omega
    have HA5:=Lib.hid hA5;have HU5:=Lib.hid hU5;have HO5:=Lib.hid hown5;have HG:=Lib.hid hgg;clear hA5 hB5 hU5 hown5 hgg hne5 hat hgrow;go_wp2_with (at_builtin;refine wpList_append_own_at _ rfl _ _ 226 rfl w0.heap.size 256 i0 _ 2 16 Tryz.underlying226 hi hz0 hz1 hz2 rfl (by decide) _ _ _ rfl (HA5.out.alloc _) ⟨w5.heap.size,0,none⟩ 1 1 [.int .i64 (f:Int),.int .i64 (d:Int)] rfl rfl ?c1 ?c2 hk4 hb4 ?c5 ?_)
    case c1 =>
      intro j u hj
      match j,hj with
      | 0,hj=>cases hj;simp[Addr.add]
      | 1,hj=>cases hj;simp[Addr.add]
    case c2=>intro u hu;simp at hu;rcases hu with rfl | rfl<;>rfl
    case c5=>simp;omega
    intro v' w6 hown6 hgrow6 hnil6 hat6; have hO6 := oC (HO5.out.alloc (.cells #[.int .i64 (f : Int), .int .i64 (d : Int)] 256)) hgrow6 (by
      rcases HG.out with e | e
      · right;rw[e];simp[Value.ownBlock]
      · right;exact fun e'=>e e'.symm)
    have hne6:v'.ownBlock=none∨v'.ownBlock≠(Value.slice (some ⟨gg,0,none⟩) (kk+1) cc).ownBlock:=by
     rcases hat6 with e | e
     · rw[e];exact HG.out
     · right;rw[e];have:=hlt;simp[Value.ownBlock];omega
    have hU6:=rA (aA HU5.out (.cells #[.int .i64 (f:Int),.int .i64 (d:Int)] 256)) hgrow6 (fun g' e=>(vB HA5.out e).1);have HM6:MI w0 t v' (.slice (some ⟨gg,0,none⟩) (kk+1) cc) (k+1) (all++[(f,d)]) (op.take kk++[(f,d)]) w6:=by
     have htl:(op.take kk++[(f,d)]).length=kk+1:=by rw[List.length_append,List.length_take,HK.out];simp
     refine ⟨by rw [List.length_append, oH]; exact hown6, by rw [htl, oH, xM]; exact hO6, hne6, hU6, ?_, by rw [List.length_append, HM.out.al]; rfl, by rw [htl]; have := HM.out.ol; rw [HK.out] at this; omega, fun y hy => by
       rcases List.mem_append.1 hy with h | h
       · have:=HM.out.dp y (List.mem_of_mem_take h);omega
       · rw[List.mem_singleton.1 h];show d≤k+1;rw[← HDd.out];exact pGA fun y hy=>HM.out.dp y (List.mem_of_mem_drop hy)⟩
     rw[← HM.out.res];obtain⟨hkt,hx⟩:=List.getElem?_eq_some_iff.1 HX.out;rw[List.drop_eq_getElem_cons hkt,hx]
     show _=if yA x=false∨op.length < (binds x).length then none else wC (t.drop (k+1)) (k+1) (all++[meas k (op.drop (op.length - (binds x).length))]) (op.take (op.length - (binds x).length)++[meas k (op.drop (op.length - (binds x).length))])
     have e:op.length - (binds x).length=kk:=by have h1:=HK.out;have h2:=HBL.out;omega
     have e':meas k (op.drop kk)=(f,d):=Prod.ext HF.out HDd.out;rw[if_neg (by rw[HR.out,HK.out,HBL.out];simp),e,e']
    have HM7:=Lib.hid HM6;clear hO6 hne6 hU6 HM6 hown6 hgrow6 hnil6 hat6;go_wp2;exact⟨v',_,_,_,bB (F:=sG _ v' _ n (k+1)) (by rfl) HM7.out⟩
  · unfold msRound zN cO; simp only [Tryz.f166, Option.getD_some, xA, jA, aD]; unfold sG; have i1 : (0 : Int) ≤ kk := Int.natCast_nonneg _; have i2 : (0 : Int) ≤ bl := Int.natCast_nonneg _; have i3 : (kk : Int) + bl ≤ 4000 := by omega
    have i4:(kk:Int)≤co:=by omega
    have i5:(kk:Int)+bl≤co:=by omega
    have i6:¬ co=kk:=by omega
    go_wp2_with fail;refine HC.out.mono ?_;rintro e w1 ⟨rfl,hU1⟩;have hB1:=HB.out.under hU1;have e0:=hB1.cell 0;have e1:=hB1.cell 1;have e2:=hB1.cell 2;have e3:=hB1.cell 3;have hlt1:=hB1.lt;have HU1:=Lib.hid hU1;have HB1:=Lib.hid hB1;have HM1:=Lib.hid (HN.out w1 (HU.out.trans hU1));clear hU1 hB1;go_wp2_with fail;refine HM1.out.mono ?_;rintro e w2 ⟨rfl,hU2⟩;have hB2:=HB1.out.under hU2;have HU2:=Lib.hid hU2;have HM2:=Lib.hid (HN.out w2 ((HU.out.trans HU1.out).trans hU2));clear e0 e1 e2 e3;have e0:=hB2.cell 0;have e1:=hB2.cell 1;have e2:=hB2.cell 2;have e3:=hB2.cell 3;have hlt2:=hB2.lt;clear hU2 hB2;go_wp2_with fail;refine HM2.out.mono ?_;rintro e w3 ⟨rfl,hU3⟩;have HU3:=Lib.hid hU3;clear e0 e1 e2 e3 hU3;go_wp2;rename_i K hK;have hUw3:=((HU.out.trans HU1.out).trans HU2.out).trans HU3.out;have hUw:=((aA (Under.refl w) (.cells #[.int .i64 x.k,.int .i64 x.n,.int .i64 x.m,.string x.s] 112)).trans HU1.out).trans (HU2.out.trans HU3.out);have hls:(op.drop kk).length=bl:=by rw[List.length_drop,HK.out];omega
    have hO3 := dC HM.out.op_ hUw; rw [HK.out] at hO3; have hA3 := dC HM.out.all_ hUw; have hgl : g < w3.heap.size := (vB hO3 rfl).2; have HL := eZ (W1 := w3) (l := .slice (some ⟨b, off, none⟩) n c) (va := va) (vo := .slice (some ⟨g, 0, none⟩) (kk + bl) co) (n := n) (k := k) (kk := kk) (b9 := w3.heap.size) (op.drop kk) (p := some ⟨g, kk * 2, none⟩) (c := co - kk) (i := k) (by omega) (Nat.le_refl _) (fun y hy => HD.out y (List.mem_of_mem_drop hy))
      (fun _=>⟨g,kk * 2,rfl,hgl,fun j u hj=>yD hO3 rfl (by rw[wAA,List.getElem?_drop]at hj;exact hj)⟩)
    rw[hls]at HL;refine wp_mono (HL bl _ _ ⟨0,by omega,bB (F:=aH _ _ _ _ _ _ _ _ bl 0) (by rfl) ⟨aA (Under.refl _) _,qA w3 _ _⟩⟩) ?_;rintro e a' w4 ⟨rfl,J',rfl,hU4,hB4⟩;simp only[Exit.inBlock,if_pos,Exit.then];refine hK _ _ ?_;clear hK HL;have hm4:meas k (op.drop kk)=meas k (op.drop kk):=rfl;generalize hf:(meas k (op.drop kk)).1=f at hB4;generalize hd:(meas k (op.drop kk)).2=d at hB4;have hO4:=nN (dC hO3 hU4) (m:=kk) (Nat.le_add_right kk bl);have hA4:=dC hA3 hU4;have e0:=hB4.cell 0;have e1:=hB4.cell 1;have h9:=hB4.lt;have hgl4:=Nat.lt_of_lt_of_le hgl hU4.size;have hb4:=Nat.le_trans hUw3.size hU4.size;have hu4:=hUw3.trans hU4;have hmx:kk+1≤maxLen:=by simp only[maxLen];omega
    have hby:(kk+1) * 16≤140737488355328:=by omega
    have hgne:g≠w3.heap.size:=by omega
    have HM4 := Lib.hid hm4; have HF := Lib.hid hf; have HDd := Lib.hid hd; have HO4 := Lib.hid hO4; have HA4 := Lib.hid hA4; have HU4 := Lib.hid hu4; have HB4 := Lib.hid hB4; clear hm4 hf hd hO4 hA4 hu4 hB4 hO3 hA3 hUw hUw3 hls hU4; unfold aH; go_wp2_with fail; go_region_held3 (fun w' => w'.cell? ⟨w3.heap.size, 0, none⟩ = some (.int .i64 (f : Int)) ∧ w'.cell? ⟨w3.heap.size, 1, none⟩ = some (.int .i64 (d : Int)))
      (first
        | go_keep
        | (go_split_ands
           refine⟨?_,?_⟩
           · (rw[hgrow.cell_far _ (by simp;omega) (by simp[Value.ownBlock]<;>omega)];assumption)
           · (rw[hgrow.cell_far _ (by simp;omega) (by simp[Value.ownBlock]<;>omega)];assumption)))
      ((refine step_append_lies _ (by rfl) _ _ _ (by rfl) w0.heap.size 256 i0 _ 2 16 Tryz.underlying226 hi hz0 hz1 hz2 rfl (by omega) (.slice (some ⟨g, 0, none⟩) kk co) kk ((yC op).take (kk * 2)) (by rfl) ((HO4.out.alloc _).drew)
          ⟨w4.heap.size,0,none⟩ 1 1 [.int .i64 (f:Int),.int .i64 (d:Int)] (by rfl) (by rfl) (World.news_of_block (cs:=#[.int .i64 (f:Int),.int .i64 (d:Int)]) (t:=256) (fr:=(0,0)) (qA w4 _ _)) (by simp[Value.oneCell'])
          (by omega) hmx hby (by simp;omega) (w4.heap.size+1) (by simp) ?_;intro gg cc w5 hown5 hgrow hat hlt))
    have hne5:va.ownBlock=none∨va.ownBlock≠(Value.slice (some ⟨g,0,none⟩) kk co).ownBlock:=HM.out.ne;have hA5:=oC ((HA4.out.alloc _).drew) hgrow hne5;have hB5:=((HB4.out.alloc _).drew).grown hgrow (by simp[Value.ownBlock]<;>omega);have hU5:=rA (fA (aA HU4.out _)) hgrow (fun g' e=>(vB HO4.out e).1);clear e0 e1;have e0:=hB5.cell 0;have e1:=hB5.cell 1;have h95:=hB5.lt;have hz5:=hU5.size;have hgg:va.ownBlock=none∨va.ownBlock≠some gg:=by
     rcases hat with e | rfl
     · rw[← e];exact hne5
     · cases hv : va.ownBlock with
       | none=>exact .inl rfl
       | some g'=>right;intro e;cases e;have:=(vB HA4.out hv).2;omega
    have hk4:all.length+1≤maxLen:=by have:=HM.out.al;simp only[maxLen];omega
    have hb4:(all.length+1) * 16≤140737488355328:=by have:=HM.out.al;omega
    have HA5:=Lib.hid hA5;have HU5:=Lib.hid hU5;have HO5:=Lib.hid hown5;have HG:=Lib.hid hgg;clear hA5 hB5 hU5 hown5 hgg hne5 hat hgrow;go_wp2_with (at_builtin;refine wpList_append_own_at _ rfl _ _ 226 rfl w0.heap.size 256 i0 _ 2 16 Tryz.underlying226 hi hz0 hz1 hz2 rfl (by decide) _ _ _ rfl (HA5.out.alloc _) ⟨w5.heap.size,0,none⟩ 1 1 [.int .i64 (f:Int),.int .i64 (d:Int)] rfl rfl ?c1 ?c2 hk4 hb4 ?c5 ?_)
    case c1 =>
      intro j u hj
      match j,hj with
      | 0,hj=>cases hj;simp[Addr.add]
      | 1,hj=>cases hj;simp[Addr.add]
    case c2=>intro u hu;simp at hu;rcases hu with rfl | rfl<;>rfl
    case c5=>simp;omega
    intro v' w6 hown6 hgrow6 hnil6 hat6; have hO6 := oC (HO5.out.alloc (.cells #[.int .i64 (f : Int), .int .i64 (d : Int)] 256)) hgrow6 (by
      rcases HG.out with e | e
      · right;rw[e];simp[Value.ownBlock]
      · right;exact fun e'=>e e'.symm)
    have hne6:v'.ownBlock=none∨v'.ownBlock≠(Value.slice (some ⟨gg,0,none⟩) (kk+1) cc).ownBlock:=by
     rcases hat6 with e | e
     · rw[e];exact HG.out
     · right;rw[e];have:=hlt;simp[Value.ownBlock];omega
    have hU6:=rA (aA HU5.out (.cells #[.int .i64 (f:Int),.int .i64 (d:Int)] 256)) hgrow6 (fun g' e=>(vB HA5.out e).1);have HM6:MI w0 t v' (.slice (some ⟨gg,0,none⟩) (kk+1) cc) (k+1) (all++[(f,d)]) (op.take kk++[(f,d)]) w6:=by
     have htl:(op.take kk++[(f,d)]).length=kk+1:=by rw[List.length_append,List.length_take,HK.out];simp
     refine ⟨by rw [List.length_append, oH]; exact hown6, by rw [htl, oH, xM]; exact hO6, hne6, hU6, ?_, by rw [List.length_append, HM.out.al]; rfl, by rw [htl]; have := HM.out.ol; rw [HK.out] at this; omega, fun y hy => by
       rcases List.mem_append.1 hy with h | h
       · have:=HM.out.dp y (List.mem_of_mem_take h);omega
       · rw[List.mem_singleton.1 h];show d≤k+1;rw[← HDd.out];exact pGA fun y hy=>HM.out.dp y (List.mem_of_mem_drop hy)⟩
     rw[← HM.out.res];obtain⟨hkt,hx⟩:=List.getElem?_eq_some_iff.1 HX.out;rw[List.drop_eq_getElem_cons hkt,hx]
     show _=if yA x=false∨op.length < (binds x).length then none else wC (t.drop (k+1)) (k+1) (all++[meas k (op.drop (op.length - (binds x).length))]) (op.take (op.length - (binds x).length)++[meas k (op.drop (op.length - (binds x).length))])
     have e:op.length - (binds x).length=kk:=by have h1:=HK.out;have h2:=HBL.out;omega
     have e':meas k (op.drop kk)=(f,d):=Prod.ext HF.out HDd.out;rw[if_neg (by rw[HR.out,HK.out,HBL.out];simp),e,e']
    have HM7:=Lib.hid HM6;clear hO6 hne6 hU6 HM6 hown6 hgrow6 hnil6 hat6;go_wp2;exact⟨v',_,_,_,bB (F:=sG _ v' _ n (k+1)) (by rfl) HM7.out⟩
end
end Go.Proofs.YtggjbblgoddnjaaGreatDoor
