/- Part 40 of what the proof rests on. -/
import Derived.Shelf.RegionOpen
import Derived.OwnWalkIn
import Derived.RangeFuncCalls
import Derived.Test.YtlnlpdephijcoaaGreatDoorM13
import Derived.Test.YtlnlpdephijcoaaGreatDoorM34
import Derived.Test.YtlnlpdephijcoaaGreatDoorM37
import Derived.Test.YtlnlpdephijcoaaGreatDoorM39
set_option linter.unusedSimpArgs false
set_option linter.unusedVariables false
set_option maxRecDepth 100000
set_option maxHeartbeats 2000000
namespace Go.Proofs.YtlnlpdephijcoaaGreatDoor
open Go.Lx Go.RowKit
attribute [local go_sem] Oper.semAt_some
theorem oRA{W w:World}(h:Under W w){l:Nat}(o:Obj)(hl:W.heap.size≤l):Under W (w.putObj l o) :=
 ⟨h.os,h.output,by simpa using h.size,fun b hb=>(World.putObj_heap_other (by omega)).trans (h.low b hb)⟩
theorem g5A{w:World}{b l:Nat}{t:TypeId}{cs:Array Value}(h:BoxAt w b t cs){o:Obj}(ho:w.heap[l]? = some o)(hc:o.isCells=false)(o':Obj):BoxAt (w.putObj l o') b t cs :=
 (World.putObj_heap_other (fun e=>by subst e;have h':=h;unfold BoxAt at h';rw[h']at ho;cases ho;cases hc)).trans h
theorem dNA{w:World}{l base n s:Nat}{e:TypeId}{v:Value}{xs:List Value}(h:w.ownsRow base e s v n xs){o:Obj}(ho:w.heap[l]? = some o)(hc:o.isCells=false)(o':Obj):(w.putObj l o').ownsRow base e s v n xs :=
 jOA h fun g hg => World.putObj_heap_other (fun e => by
   subst e;rcases h.2 with⟨rfl,_⟩ | ⟨g',cap,cur,rfl,_,hgg,_⟩
   · cases hg
   · cases hg;rw[hgg]at ho;cases ho;cases hc)
theorem dY {F : Fence} {n : Nat} {P : Program} (w : World) {ops : Array Oper} {rest : List Oper} {o : Oper} {a : Act} {Q : Exit → Act → World → Prop}
    (hg:o.guard=none) (l c:Operand) (t:TypeId) (hop:o.op=Op.makeSlice t l c)
    (base:Nat) (e:TypeId) (i:TypeInfo) (z:Value) (size:Nat) (h1:P.underlying t=some (.slice e)) (h2:P.info? e=some i) (h3:i.zero=some z) (h4:i.size=size)
    (kl kc:IntKind) (L C:Int) (m:Nat) (hl:a.eval l = .int kl L) (hc:a.eval c = .int kc C) (hL:L=(m:Int)) (hC:C=(m:Int)) (b2:i.bytes * m≤281474976710656) (b3:m≤maxLen) (b4:base≤w.heap.size)
    (hK:∀ w',w'.ownsRow base e size (.slice (some ⟨w.heap.size,0,none⟩) m m) m (madeCells z.cells (m * size)).toList→w.grownBy w' none→wpListIn F n P ops Q rest (a.put o.dst (.slice (some ⟨w.heap.size,0,none⟩) m m)) w') :
    wpListIn F n P ops Q (o::rest) a w:=by
  refine wpListIn_plain hg fun K hK'=>?_
  obtain⟨w',hrun,r1,r2⟩:=run_make_full (P:=P) w base t e i z size h1 h2 h3 h4 kl kc m b2 b3 b4;subst hL;subst hC;unfold Oper.wpIn;refine⟨?_,?_⟩
  · simp[Oper.about,hop]
  · rw[Oper.semAt_plain F _ _ (by rw[hop];intro c hc';cases hc')];simp[execOp,hop,hl,hc,hrun,Result.andThen];exact hK' _ _ (hK w' r1 r2)
abbrev dVA(B:Nat)(w:World)(v:Value)(T:Tm):Prop:=w.ownsRow B 76 4 v (flat T).length (zB (flat T))
structure ArI (w0:World) (l:List Tm) (bl gl cap M:Nat) (vs:List Value) (A:World):Prop where
 low:Under w0 A
 box:BoxAt A bl 102 #[.slice (some ⟨gl,0,none⟩) l.length cap]
 row:A.ownsRow w0.heap.size 30 1 (.slice (some ⟨gl,0,none⟩) l.length cap) l.length vs
 got:∀ i (hi:i < l.length),M≤i→∃ v,vs[i]? = some v∧dVA w0.heap.size A v l[i]
def ArJ(w0:World)(l:List Tm)(bl gl cap:Nat)(pre:List (Nat×Nat×Nat))(A:World):Prop:=∃ M vs,pre++nG l M=nG l l.length∧M≤l.length∧ArI w0 l bl gl cap M vs A
theorem ArI.under{w0 A A':World}{l:List Tm}{bl gl cap M:Nat}{vs:List Value}(h:ArI w0 l bl gl cap M vs A)(hU:Under A A'):ArI w0 l bl gl cap M vs A' :=
 ⟨h.low.trans hU,h.box.under hU,uA h.row hU,fun i hi hM=>by obtain⟨v,h1,h2⟩:=h.got i hi hM;exact⟨v,h1,uA h2 hU⟩⟩
theorem ArI.putO{w0 A:World}{l:List Tm}{bl gl cap M k:Nat}{vs:List Value}{o:Obj}(h:ArI w0 l bl gl cap M vs A)(hl:w0.heap.size≤k)(ho:A.heap[k]? = some o)(hc:o.isCells=false)(o':Obj):ArI w0 l bl gl cap M vs (A.putObj k o') :=
 ⟨oRA h.low _ hl,g5A h.box ho hc _,dNA h.row ho hc _,fun i hi hM=>by obtain⟨v,h1,h2⟩:=h.got i hi hM;exact⟨v,h1,dNA h2 ho hc _⟩⟩
def d7A(w0:World)(l:List Tm)(e:Ending)(w:World):Prop:=∃ vr vs,e = .returned (.tuple #[vr,.int .i64 0])∧Under w0 w∧w.ownsRow w0.heap.size 30 1 vr l.length vs∧Zip (dVA w0.heap.size w) vs l
section
variable {w0 : World}
theorem xPA(x:Nd)(l:List Tm){t:List Nd}{b off c:Nat}(ht:t=flat (.mk x l))(hok:okT (.mk x l))(hd:rC (.mk x l)≤60)(hn:t.length≤4000)(hc:t.length≤c)(hr:RowArg w0 (some ⟨b,off,none⟩) (zB t))(hS:ShapesAt 0 w0) :
 Calls Tryz.prog 82 #[.slice (some ⟨b,off,none⟩) t.length c] w0 (d7A w0 l):=by
 obtain⟨hx,hl,hls⟩:=hok;have hck:vB t=0:=by rw[ht];exact gH ⟨hx,hl,hls⟩ hd (by rw[← ht];exact hn)
 have hfl:t.length=(qA l).length+1:=by rw[ht,flat];simp
 have hte:t[(qA l).length]? = some x:=by
  rw[ht,flat,List.getElem?_append_right (Nat.le_refl _),Nat.sub_self];rfl
 have hs16:∀ y∈t,y.s.size≤maxLen:=fun y hy=>by have:=rV (nV hck y hy);simp only[maxLen];omega
 have HK:=Lib.hid (hNA (c:=c) t (by simp only[maxLen];omega) hs16 hr hS);obtain⟨b1,off1,e1,hb,c0,c1,c2,c3⟩:=RowArg.node hr hte
 cases e1;have HM:=Lib.hid (fun w (hU:Under w0 w)=>kGA x w (hS.under hU) hx);obtain⟨i0,hi,hz0,hz1,hz2⟩:=info_parts Tryz.infoNds;have HSh:=Lib.hid hS;have HT:=Lib.hid ht;have HLx:=Lib.hid hl;have HX:=Lib.hid hx;have HLs:=Lib.hid hls;have HCk:=Lib.hid hck;have HR:=Lib.hid hr;rw[← hl]at HM;have hB8:=gG hx;obtain⟨z,hz⟩:∃ z,z=(qA l).length:=⟨_,rfl⟩;have HZ:=Lib.hid hz;rw[← hz]at c0 c1 c2 c3 hfl;have HC0:=Lib.hid c0;have HC1:=Lib.hid c1;have HC2:=Lib.hid c2;have HC3:=Lib.hid c3;have HFl:=Lib.hid hfl;rw[hfl]at hn hc HK ⊢;have hz0':(0:Int)≤(z:Int):=by omega
 have hz1':(z:Int)≤4000:=by omega
 have hze:((z:Int)+1 - 1)=(z:Int):=by omega
 have hL0:(0:Int)≤(l.length:Int):=by omega
 have hL8:l.length≤8:=by omega
 clear ht hck hr hte hs16 hS hx hl hls hd hB8 hz hfl c0 c1 c2 c3;unfold ndV at HM;refine(callsIn_wide (n:=10)).1 ?_;refine callsIn_of_wp_marks Tryz.func82 rfl trivial ?_ rfl;simp only[Tryz.ntmps82,List.size_toArray,List.length_cons,List.length_nil,Nat.reduceAdd,Nat.reduceSub,Array.replicate_succ,Array.replicate_zero,List.push_toArray,List.append_toArray,List.nil_append,List.cons_append]
 gi_wp2
 refine⟨trivial,?_⟩;refine(callsIn_wide.2 HK.out).mono ?_;rintro e w1 ⟨hU1,hLO⟩;rw[if_pos HCk.out]at hLO;obtain⟨vm,all,op,hm,rfl,hmr⟩:=hLO;have HU1:=Lib.hid hU1;have HMe:=Lib.hid hm;have HMr:=Lib.hid hmr;have halen:all.length=z+1:=by rw[← HFl.out];have:=(cFA t 0 [] [] rfl (Nat.le_refl _) hm).1;simpa using this
 obtain⟨gm,cm,rfl,_,_,hgm0,hgm1,_⟩:=wC hmr (by omega);have HGm:=Lib.hid hgm0;have c0:=(jA hU1 hb (off+z * 4)).trans HC0.out;have c1:=(jA hU1 hb (off+z * 4+1)).trans HC1.out;have c2:=(jA hU1 hb (off+z * 4+2)).trans HC2.out;have c3:=(jA hU1 hb (off+z * 4+3)).trans HC3.out;have hb1:=Nat.lt_of_lt_of_le hb hU1.size;clear hU1 hm hmr hgm0
 gi_wp2
 refine⟨trivial,?_⟩;refine(callsIn_wide.2 (HM.out _ HU1.out)).mono ?_;rintro e w2 ⟨rfl,hU2⟩;have HU2:=Lib.hid hU2;have hs2:=hU2.size;have hs1:=HU1.out.size;clear hU2 c0 c1 c2 c3
 gi_wp2_with (gi_at_make;refine dY _ rfl _ _ _ rfl w0.heap.size 30 i0 _ 1 Tryz.underlying102 hi hz0 hz1 .i64 .i64 _ _ l.length rfl rfl rfl rfl ?c1 ?c2 ?c3 ?_)
 case c1=>rw[hz2];omega
 case c2=>simp only[maxLen];omega
 case c3=>omega
 intro w3 hown hgrow;have HO3:=Lib.hid hown;have hU3:=eB (Under.refl w2) hgrow fun g e=>by cases e
 have HU13:=Lib.hid (HU2.out.trans hU3);have hgl:w0.heap.size≤w2.heap.size:=by omega
 have HGl3:=Lib.hid (iC hown rfl).2;have HGl1:=Lib.hid hs2;have hgl3:=hU3.size;generalize w2.heap.size=gl at *;clear hown hgrow hU3;obtain⟨W3,hW3⟩:∃ W,W=w3.alloc (.cells #[.slice (some ⟨gl,0,none⟩) l.length l.length] 102):=⟨_,rfl⟩;have hU3':Under w1 W3:=by rw[hW3];exact aA HU13.out _
 have hBl:BoxAt W3 w3.heap.size 102 #[.slice (some ⟨gl,0,none⟩) l.length l.length]:=by rw[hW3];exact yA _ _ _
 have hOl:W3.ownsRow w0.heap.size 30 1 (.slice (some ⟨gl,0,none⟩) l.length l.length) l.length (madeCells #[.slice none 0 0] l.length).toList:=by rw[hW3];exact HO3.out.alloc _
 have HN:=Lib.hid (lKA (some ⟨b,off,none⟩) (some ⟨gm,0,none⟩) (z+1) c (z+1) cm W3);obtain⟨W4,hW4⟩:∃ W,W=(W3.alloc (.cells #[.slice (some ⟨b,off,none⟩) (z+1) c] 30)).alloc (.cells #[.slice (some ⟨gm,0,none⟩) (z+1) cm] 122):=⟨_,rfl⟩;have hU34:Under W3 W4:=by rw[hW4];exact aA (aA (Under.refl _) _) _
 have hz4:W4.heap.size=W3.heap.size+2:=by rw[hW4];simp
 have hU04:=HU1.out.trans (hU3'.trans hU34);have hTb:BoxAt W4 W3.heap.size 30 #[.slice (some ⟨b,off,none⟩) (z+1) c]:=by rw[hW4];exact(yA _ _ _).alloc _
 have hMb:BoxAt W4 (W3.heap.size+1) 122 #[.slice (some ⟨gm,0,none⟩) (z+1) cm]:=by
  rw[hW4];have:=yA (W3.alloc (.cells #[.slice (some ⟨b,off,none⟩) (z+1) c] 30)) #[.slice (some ⟨gm,0,none⟩) (z+1) cm] 122
  simpa using this
 have hcM:∀ M,M < l.length→w1.cell? ⟨gm,(starts l (M+1) - 1) * 2,none⟩=some (.int .i64 (starts l M:Int)):=fun M hM=>by
  obtain⟨dd,hdd⟩:=n7A HLs.out (by rw[← HT.out];exact HMe.out) hM;exact lC HMr.out rfl (jO hdd).1
 have HIt := Lib.hid (hIA (n := 9) (W0 := w1) (w := W4) (L := l) (tb := W3.heap.size) (mb := W3.heap.size + 1) (off := off) (c := c) (N := z + 1) (mn := z + 1) (mc := cm) HX.out HLx.out (by rw [HZ.out]) hc (by omega) (hU3'.trans hU34) hb1
   (by rw[jA HU1.out hb,← HZ.out];exact HC0.out) (by rw[jA HU1.out hb,← HZ.out];exact HC1.out) (by rw[jA HU1.out hb,← HZ.out];exact HC2.out) (by rw[jA HU1.out hb,← HZ.out];exact HC3.out) (HSh.out.under HU1.out) hTb hMb (Nat.le_refl _) HGm.out hcM)
 have hsz14:=(hU3'.trans hU34).size;have hI4:ArJ w0 l w3.heap.size gl l.length [] W4:=⟨l.length,_,rfl,Nat.le_refl _,hU04,hBl.under hU34,uA hOl hU34,fun i hi hM=>by omega⟩;have HI4:=Lib.hid hI4;have HZ4:=Lib.hid hz4;have HW3:=Lib.hid hW3;have HW4:=Lib.hid hW4;have HSc:=Lib.hid (show W4.heap.size≤W4.heap.size∧w0.heap.size≤W4.heap.size from⟨Nat.le_refl _,hU04.size⟩);have HTt:=Lib.hid (show Under w0 W4 from hU04);clear hU3' hBl hOl hU34 hU04 hTb hMb hcM hI4
 gi_wp2
 rw[← hW3];refine⟨trivial,?_⟩;refine(callsIn_wide.2 HN.out).mono ?_;rintro e w4 ⟨rfl,hw4⟩;rw[← hW4]at hw4;subst hw4;clear hW3 hW4
 gi_wp2
 refine kV rfl (by decide) (gf := 130) (lb := #[.pointer (some ⟨W3.heap.size, 0, none⟩), .pointer (some ⟨W3.heap.size + 1, 0, none⟩)]) rfl trivial (enters_of Tryz.func130 (by kernel_rfl) rfl)
   HIt.out (Under.refl _) (fun _ => rfl) (fun k hk => by
     have:=HZ4.out;rcases hk with hk | rfl | rfl<;>omega)
   (fun pre A=>ArJ w0 l w3.heap.size gl l.length pre A) (fun c pre A=>False)
   ?hI ?hIo ?hIx HI4.out ?a1 ?assign ?body ?done ?stop
 case hI=>exact fun pre A A' ⟨M,vs,h1,h2,h3⟩ hU _=>⟨M,vs,h1,h2,h3.under hU⟩
 case hIo=>exact fun pre A k o o' ⟨M,vs,h1,h2,h3⟩ hl ho hc=>⟨M,vs,h1,h2,h3.putO (Nat.le_trans HSc.out.2 hl) ho hc o'⟩
 case hIx=>exact fun c pre A l o o' h hl ho hc=>h
 case assign =>
   intro k y W K hK;unfold z0A
   gi_wp2
   exact hK
 case body =>
   rintro k pre y A hsz ⟨M,vs,hM1,hM2,hI⟩ hpre;obtain⟨r,hr⟩:=hpre;have hM3:[y]++r=nG l M:=by
    have:=hr.trans hM1.symm;rw[List.append_assoc]at this;exact List.append_cancel_left this
   cases M with
   | zero=>simp[nG]at hM3
   | succ M =>
     rw[nG,List.singleton_append,List.cons.injEq]at hM3;obtain⟨rfl,hr2⟩:=hM3;have hMl:M < l.length:=hM2;have hn2:starts l (M+1) - starts l M=(flat l[M]).length:=by unfold starts;rw[bY hMl,List.length_append];omega
     have hI9:pre++[(M,starts l M,starts l (M+1) - starts l M)]++nG l M=nG l l.length:=by rw[← hM1,nG,List.append_assoc];rfl
     rw[hn2]at hI9 ⊢;have hsplit:t=qA (l.take M)++flat l[M]++(qA (l.drop (M+1))++[x]):=by
      rw[HT.out,flat]
      conv=>lhs;rw[← List.take_append_drop M l]
      rw[jF,List.drop_eq_getElem_cons hMl,qA];simp only[List.append_assoc]
     have hpart:RowArg w0 (some ⟨b,off+starts l M * 4,none⟩) (zB (flat l[M])):=by
      have:=HR.out;rw[hsplit,oN,oN]at this;have h2:=gVA this
      rwa [pU]at h2
     have hpl:(flat l[M]).length+starts l M≤z:=by
      have:=cJA hM2;have:=HZ.out;have:=fJA hMl;omega
     have hfp:=bL l[M];have HCl:=Lib.hid (fun W' (hU:Under w0 W')=>xOA (w0:=W') (flat l[M]) (b:=b) (off:=off+starts l M * 4) (c:=c - starts l M) (by omega) (by omega) (hpart.under hU));have HI:=Lib.hid hI;have HI9:=Lib.hid hI9;have hvl:vs.length=l.length:=by have:=hI.row.1;omega
     have hvM:vs[M]? = some vs[M]:=List.getElem?_eq_getElem (by omega);have hM8:(M:Int) < (l.length:Int):=by omega
     have hM0:(0:Int)≤(M:Int):=by omega
     have HGt:=Lib.hid (fun i (hi:i < l.length) (hM:M+1≤i)=>hI.got i hi hM);have HMl:=Lib.hid hMl;clear hM1 hr hr2 hn2 hI9 hsplit hpart hpl;have HB0:=Lib.hid (hI.box);have HR0:=Lib.hid (hI.row);have HL0:=Lib.hid (hI.low);have b0:A.cell? ⟨w3.heap.size,0,none⟩=some (.slice (some ⟨gl,0,none⟩) l.length l.length):=hI.box.cell 0;have b1:=hI.box.lt;clear hI;have HSA:=Lib.hid (show w0.heap.size≤A.heap.size from HL0.out.size);generalize hTT:l[M]=T at *;have HTT:=Lib.hid hTT;clear hTT;generalize starts l M=s at *;generalize vs[M]=u at *;have HvM:=Lib.hid hvM;clear hvM;have hmix:Tryz.prog.follows .mixedOrders=true:=by kernel_rfl
     have hfn:Fence.wide.fn 112:=trivial
     gi_wp2
     gi_region_with_o (
       gi_at_call 112
       refine(CallsIn.inRound k (callsIn_wide.2 (HCl.out _ (bA HL0.out)))).mono ?_;rintro e w5 ⟨v,rfl,hv,hU5'⟩;have hU5:=(bA (Under.refl A)).trans hU5';have HV5:=Lib.hid hv;have HU5:=Lib.hid hU5;have d0:w5.cell? ⟨w3.heap.size,0,none⟩=some (.slice (some ⟨gl,0,none⟩) l.length l.length):=(HB0.out.under hU5).cell 0;have d1:=(HB0.out.under hU5).lt;have d2:w5.cell? ⟨gl,M,none⟩=some u:=lC (uA HR0.out hU5) rfl HvM.out;have d3:w5.frozen? ⟨gl,M,none⟩=false:=uR (uA HR0.out hU5) rfl M;have d4:=(iC (uA HR0.out hU5) rfl).2;obtain⟨qv,cv,rfl,_,_⟩:=RowArg.of_own hv;clear hv hU5 hU5')
     all_goals
      gi_wp2
      have hg5:=HGl3.out;have hg1:=HGl1.out;have hgA:=(iC HR0.out rfl).2;have hz4:=HZ4.out;have hz3:W3.heap.size=w3.heap.size+1:=by rw[HW3.out];simp
      refine⟨((⟨HU5.out.size,fun j o hj ho=>(HU5.out.low j (Array.getElem?_eq_some_iff.1 hj).1).trans hj⟩:KeepsOthers A w5).trans (KeepsOthers.setCell _ _ _)).from _,⟨HU5.out.os,HU5.out.output,by rw[q8];exact HU5.out.size,fun k hk hr=>?_⟩,M,vs.set M (.slice qv (flat T).length cv),HI9.out,by omega,?_⟩
      · rcases hr with hr | hr
        · exact(heap_set w5 _ _ k (by show k≠gl;rcases hr with hr | rfl | rfl<;>omega)).trans (HU5.out.low k hk)
        · cases hr
      · refine ⟨xD (HL0.out.trans HU5.out) (by omega) _ _, BoxAt.other (HB0.out.under HU5.out) (by omega) _ _, sZ (uA HR0.out HU5.out) rfl (by omega) _, fun i hi hM => ?_⟩; by_cases hiM : i = M
        · subst hiM;refine⟨_,List.getElem?_set_self (by omega),?_⟩;have eT:l[i]'hi=T:=HTT.out;rw[show dVA w0.heap.size (w5.setCell ⟨gl,i,none⟩ (.slice qv (flat T).length cv)) (.slice qv (flat T).length cv) (l[i]'hi)=dVA w0.heap.size (w5.setCell ⟨gl,i,none⟩ (.slice qv (flat T).length cv)) (.slice qv (flat T).length cv) T by rw[eT]];exact kK (kN HV5.out HSA.out) (fun e=>by have:=(iC HV5.out e).1;have:A.drew.heap.size=A.heap.size:=rfl;omega) i _
        · obtain ⟨v', hv1, hv2⟩ := HGt.out i hi (by omega); refine ⟨v', by rw [List.getElem?_set_ne (by omega)]; exact hv1, ?_⟩; refine kK (uA hv2 HU5.out) (fun e => ?_) M _; rcases own_ne hv2 HR0.out (by decide) with h | h
          · rw[h]at e;cases e
          · exact h (by rw[e];rfl)
 case done =>
   rintro D W hD ⟨M,vs,h1,h2,hI⟩ hK;have hM0:M=0:=by
    have:=congrArg List.length h1;rw[List.length_append]at this
    cases M with
    | zero=>rfl
    | succ M=>simp[nG]at this
   subst hM0;have HI:=Lib.hid hI;have HK':=Lib.hid hK;have HD:=Lib.hid hD;have b0:W.cell? ⟨w3.heap.size,0,none⟩=some (.slice (some ⟨gl,0,none⟩) l.length l.length):=hI.box.cell 0;have b1:=hI.box.lt;clear hI hK hD h1 h2
   gi_wp2
   refine⟨by simp,.inl ⟨_,_,rfl,run_takeDeferred HK'.out,?_⟩⟩;refine⟨.tuple #[.slice (some ⟨gl,0,none⟩) l.length l.length,.int .i64 0],by simp[results,Tryz.f82,go_sem],?_⟩;have hI2:=HI.out.putO (Nat.le_trans HSc.out.2 HD.out) HK'.out rfl (.deferred none);refine⟨_,vs,rfl,hI2.low,hI2.row,by have:=hI2.row.1;omega,fun i v T hv hT=>?_⟩;obtain⟨hil,rfl⟩:=List.getElem?_eq_some_iff.1 hT;obtain⟨v',e1,e2⟩:=hI2.got i hil (Nat.zero_le _);rw[hv]at e1
   cases e1;exact e2
 case stop=>exact fun D c pre W hD h hK=>h.elim
end
theorem bM{w:World}{hb:Nat}(h:MapIAt w hb vE){k:Int}(h0:0≤k)(h1:k < 30):(Instr.lookup 89 (.map (some hb)) (.int .i64 k) false).run Tryz.prog w = .ok (.agg #[.string (kJ k.toNat)]) w:=by
 have hz:(zeroValue 144).run Tryz.prog=fun w=>.ok (.agg #[.string ⟨#[]⟩]) w:=by funext w;kernel_rfl
 have h2:=h.lookup (k:=k) (kt:=3) (et:=144) Tryz.underlying89 Tryz.underlying3 (z:=.agg #[.string ⟨#[]⟩]) (by rw[hz]);have h3:=pQA k.toNat (by omega);rw[show((k.toNat:Nat):Int)=k by omega]at h3;rw[h3]at h2;exact h2
theorem aM(h:ByteArray)(w:World):(Instr.field 144 (.agg #[.string h]) 0).run Tryz.prog w = .ok (.string h) w:=by kernel_rfl
theorem gNA(x:Nd)(l:List Tm)(h1:x.k=1):jJ (.mk x l):=by
 rintro hok hd hn W0 w pb hq tb ks st av sv tv hW hS hP hT hv hA ha hst hss hin;have hx:=hok.1;have hte:(flat (.mk x l))[(flat (.mk x l)).length - 1]? = some x:=by rw[flat];simp
 have hpos:1≤(flat (.mk x l)).length:=by rw[flat];simp
 obtain⟨p,c,rfl,hc,hp0,hr⟩:=hv;obtain⟨b,off,rfl,hb,c0,c1,c2,c3⟩:=RowArg.node hr hte;obtain⟨M,hM⟩:∃ M,(flat (.mk x l)).length=M+1:=⟨(flat (.mk x l)).length - 1,by omega⟩;rw[hM]at c0 c1 c2 c3;simp only[Nat.add_sub_cancel]at c0 c1 c2 c3;have hM0:(0:Int)≤(M:Int):=by omega
 have hM4:(M:Int)≤4000:=by omega
 have hMi:((M:Int)+1 - 1)=(M:Int):=by omega
 have hk:=oH hx;obtain⟨w1,hw1⟩:∃ w1,w1=(w.alloc (.cells #[.pointer (some ⟨pb,0,none⟩)] 88)).alloc (.cells #[.int .i64 x.k,.int .i64 x.n,.int .i64 x.m,.string x.s] 76):=⟨_,rfl⟩;have hU1:Under w w1:=by rw[hw1];exact aA (aA (Under.refl w) _) _
 have hB1:BoxAt w1 w.heap.size 88 #[.pointer (some ⟨pb,0,none⟩)]:=by rw[hw1];exact(yA w _ _).alloc _
 have hB2:BoxAt w1 (w.heap.size+1) 76 #[.int .i64 x.k,.int .i64 x.n,.int .i64 x.m,.string x.s]:=by
  have:=yA (w.alloc (.cells #[.pointer (some ⟨pb,0,none⟩)] 88)) #[.int .i64 x.k,.int .i64 x.n,.int .i64 x.m,.string x.s] 76;rw[World.size_alloc]at this;rw[hw1];exact this
 have hP1:=hP.under hU1;have d0:w1.cell? ⟨w.heap.size,0,none⟩=some (.pointer (some ⟨pb,0,none⟩)):=hB1.cell 0;have d1:w1.cell? ⟨pb,0,none⟩=some (.map (some hq)):=hP1.box.cell 0;have d2:w1.cell? ⟨w.heap.size+1,0,none⟩=some (.int .i64 x.k):=hB2.cell 0;have d3:MapIAt w1 hq vE:=hP1.heads;have HT:RowKit.Hid (aG av (.mk x l) st=x.s.data.toList):=Lib.hid (by unfold aG;rw[if_neg (by omega),if_pos h1]);generalize aG av (.mk x l) st=R at *;have HFd:=aM;have HLk:=fun(w':World) (h:MapIAt w' hq vE)=>bM h hk.1 hk.2
 rw [hM]; subst hw1; have HU1 := Lib.hid hU1; have HB1 := Lib.hid hB1; have HB2 := Lib.hid hB2; have HP1 := Lib.hid hP1; have dd := And.intro d0 (And.intro d1 (And.intro d2 d3)); have HK := Lib.hid hk; rw [hM] at hc; clear hte hr hok hin hst hss hA hT hS hW hP hU1 hB1 hB2 hP1 hpos hn hM hp0 hx hd d0 d1 d2 d3 hk; obtain ⟨k, n, m, s⟩ := x; simp only at *; subst h1; go_enter Tryz.func44, Tryz.ntmps44; go_wp2_with fail; go_region_held3 (fun w' => w'.cell? ⟨w.heap.size, 0, none⟩ = some (.pointer (some ⟨pb, 0, none⟩)) ∧ w'.cell? ⟨pb, 0, none⟩ = some (.map (some hq)) ∧ w'.cell? ⟨w.heap.size + 1, 0, none⟩ = some (.int .i64 1) ∧ MapIAt w' hq vE)
   (first
     | exact dd
     | go_keep)
   (fail)
 rename_i hHeld;clear dd hHeld HLk HFd c0 c1 c2 c3;go_wp2;go_ret;exact⟨dAA (by rw[HT.out,eY]),sv,HP1.out.under (bA (Under.refl _)),Ch.of_under (HU1.out.trans (bA (Under.refl _))),fun b _ e=>e⟩
theorem cUA(x:Nd)(l:List Tm)(h1:x.k=2)(h2:x.n=0):jJ (.mk x l):=by
 rintro hok hd hn W0 w pb hq tb ks st av sv tv hW hS hP hT hv hA ha hst hss hin;have hx:=hok.1;have hte:(flat (.mk x l))[(flat (.mk x l)).length - 1]? = some x:=by rw[flat];simp
 have hpos:1≤(flat (.mk x l)).length:=by rw[flat];simp
 obtain⟨p,c,rfl,hc,hp0,hr⟩:=hv;obtain⟨b,off,rfl,hb,c0,c1,c2,c3⟩:=RowArg.node hr hte;obtain⟨M,hM⟩:∃ M,(flat (.mk x l)).length=M+1:=⟨(flat (.mk x l)).length - 1,by omega⟩;rw[hM]at c0 c1 c2 c3;simp only[Nat.add_sub_cancel]at c0 c1 c2 c3;have hM0:(0:Int)≤(M:Int):=by omega
 have hM4:(M:Int)≤4000:=by omega
 have hMi:((M:Int)+1 - 1)=(M:Int):=by omega
 have hk:=oH hx;obtain⟨w1,hw1⟩:∃ w1,w1=(w.alloc (.cells #[.pointer (some ⟨pb,0,none⟩)] 88)).alloc (.cells #[.int .i64 x.k,.int .i64 x.n,.int .i64 x.m,.string x.s] 76):=⟨_,rfl⟩;have hU1:Under w w1:=by rw[hw1];exact aA (aA (Under.refl w) _) _
 have hB1:BoxAt w1 w.heap.size 88 #[.pointer (some ⟨pb,0,none⟩)]:=by rw[hw1];exact(yA w _ _).alloc _
 have hB2:BoxAt w1 (w.heap.size+1) 76 #[.int .i64 x.k,.int .i64 x.n,.int .i64 x.m,.string x.s]:=by
  have:=yA (w.alloc (.cells #[.pointer (some ⟨pb,0,none⟩)] 88)) #[.int .i64 x.k,.int .i64 x.n,.int .i64 x.m,.string x.s] 76;rw[World.size_alloc]at this;rw[hw1];exact this
 have hP1:=hP.under hU1;have d0:w1.cell? ⟨w.heap.size,0,none⟩=some (.pointer (some ⟨pb,0,none⟩)):=hB1.cell 0;have d1:w1.cell? ⟨pb,0,none⟩=some (.map (some hq)):=hP1.box.cell 0;have d2:w1.cell? ⟨w.heap.size+1,0,none⟩=some (.int .i64 x.k):=hB2.cell 0;have d3:MapIAt w1 hq vE:=hP1.heads;have HT:RowKit.Hid (aG av (.mk x l) st=(⟨#[80,114,111,112]⟩:ByteArray).data.toList):=Lib.hid (by unfold aG;rw[if_neg (by omega),if_neg (by omega),if_neg (by simp[sH,h1]),if_pos h1,if_pos h2]);generalize aG av (.mk x l) st=R at *;have HFd:=aM;have HLk:=fun(w':World) (h:MapIAt w' hq vE)=>bM h hk.1 hk.2
 rw [hM]; subst hw1; have HU1 := Lib.hid hU1; have HB1 := Lib.hid hB1; have HB2 := Lib.hid hB2; have HP1 := Lib.hid hP1; have dd := And.intro d0 (And.intro d1 (And.intro d2 d3)); have HK := Lib.hid hk; rw [hM] at hc; clear hte hr hok hin hst hss hA hT hS hW hP hU1 hB1 hB2 hP1 hpos hn hM hp0 hx hd d0 d1 d2 d3 hk; obtain ⟨k, n, m, s⟩ := x; simp only at *; subst h1 h2; go_enter Tryz.func44, Tryz.ntmps44; go_wp2_with fail; go_region_held3 (fun w' => w'.cell? ⟨w.heap.size, 0, none⟩ = some (.pointer (some ⟨pb, 0, none⟩)) ∧ w'.cell? ⟨pb, 0, none⟩ = some (.map (some hq)) ∧ w'.cell? ⟨w.heap.size + 1, 0, none⟩ = some (.int .i64 2) ∧ MapIAt w' hq vE)
   (first
     | exact dd
     | go_keep)
   (fail)
 rename_i hHeld;clear dd hHeld HLk HFd c0 c1 c2 c3;go_wp2;go_ret;exact⟨dAA (by rw[HT.out]),sv,HP1.out.under (bA (Under.refl _)),Ch.of_under (HU1.out.trans (bA (Under.refl _))),fun b _ e=>e⟩
theorem hSA(x:Nd)(l:List Tm)(h1:x.k=2)(h2:x.n≠0):jJ (.mk x l):=by
 rintro hok hd hn W0 w pb hq tb ks st av sv tv hW hS hP hT hv hA ha hst hss hin;have hx:=hok.1;have hte:(flat (.mk x l))[(flat (.mk x l)).length - 1]? = some x:=by rw[flat];simp
 have hpos:1≤(flat (.mk x l)).length:=by rw[flat];simp
 obtain⟨p,c,rfl,hc,hp0,hr⟩:=hv;obtain⟨b,off,rfl,hb,c0,c1,c2,c3⟩:=RowArg.node hr hte;obtain⟨M,hM⟩:∃ M,(flat (.mk x l)).length=M+1:=⟨(flat (.mk x l)).length - 1,by omega⟩;rw[hM]at c0 c1 c2 c3;simp only[Nat.add_sub_cancel]at c0 c1 c2 c3;have hM0:(0:Int)≤(M:Int):=by omega
 have hM4:(M:Int)≤4000:=by omega
 have hMi:((M:Int)+1 - 1)=(M:Int):=by omega
 have hk:=oH hx;obtain⟨w1,hw1⟩:∃ w1,w1=(w.alloc (.cells #[.pointer (some ⟨pb,0,none⟩)] 88)).alloc (.cells #[.int .i64 x.k,.int .i64 x.n,.int .i64 x.m,.string x.s] 76):=⟨_,rfl⟩;have hU1:Under w w1:=by rw[hw1];exact aA (aA (Under.refl w) _) _
 have hB1:BoxAt w1 w.heap.size 88 #[.pointer (some ⟨pb,0,none⟩)]:=by rw[hw1];exact(yA w _ _).alloc _
 have hB2:BoxAt w1 (w.heap.size+1) 76 #[.int .i64 x.k,.int .i64 x.n,.int .i64 x.m,.string x.s]:=by
  have:=yA (w.alloc (.cells #[.pointer (some ⟨pb,0,none⟩)] 88)) #[.int .i64 x.k,.int .i64 x.n,.int .i64 x.m,.string x.s] 76;rw[World.size_alloc]at this;rw[hw1];exact this
 have hP1:=hP.under hU1;have d0:w1.cell? ⟨w.heap.size,0,none⟩=some (.pointer (some ⟨pb,0,none⟩)):=hB1.cell 0;have d1:w1.cell? ⟨pb,0,none⟩=some (.map (some hq)):=hP1.box.cell 0;have d2:w1.cell? ⟨w.heap.size+1,0,none⟩=some (.int .i64 x.k):=hB2.cell 0;have d3:MapIAt w1 hq vE:=hP1.heads;have hn9:=kU hx;have HT:RowKit.Hid (aG av (.mk x l) st=[40,84,121,112,101,32]++Lib.decDigits x.n.toNat++[41]):=Lib.hid (by unfold aG;rw[if_neg (by omega),if_neg (by omega),if_neg (by simp[sH,h1]),if_pos h1,if_neg h2]);generalize aG av (.mk x l) st=R at *;have HFd:=aM;have HLk:=fun(w':World) (h:MapIAt w' hq vE)=>bM h hk.1 hk.2
 rw[hM];subst hw1;have HU1:=Lib.hid hU1;have HB1:=Lib.hid hB1;have HB2:=Lib.hid hB2;have HP1:=Lib.hid hP1;have dd:=And.intro d0 (And.intro d1 (And.intro d2 d3));have HK:=Lib.hid hk;rw[hM]at hc;clear hte hr hok hin hst hss hA hT hS hW hP hU1 hB1 hB2 hP1 hpos hn hM hp0 hx hd d0 d1 d2 d3 hk;obtain⟨k,n,m,s⟩:=x;simp only at *;subst h1;obtain⟨u,rfl⟩:∃ u:Nat,n=u:=⟨n.toNat,by omega⟩;rw[Int.toNat_natCast]at HT;have hu:u < 100:=by omega
 have h2':((u:Int)==0)=false:=by simpa using h2
 have HI:=Lib.hid (fun w=>Tryz.strconv_Itoa_small u hu w);have hL:=dW u (by omega);have hL1:¬ 9223372036854775807 < 6+(Lib.decDigits u).toArray.size:=by simp;omega
 have hL2:¬ 9223372036854775807 < 6+(Lib.decDigits u).toArray.size+1:=by simp;omega
 clear hL h2; generalize Lib.decDigits u = D at *; go_enter Tryz.func44, Tryz.ntmps44; go_wp2_with fail; go_region_held3 (fun w' => w'.cell? ⟨w.heap.size, 0, none⟩ = some (.pointer (some ⟨pb, 0, none⟩)) ∧ w'.cell? ⟨pb, 0, none⟩ = some (.map (some hq)) ∧ w'.cell? ⟨w.heap.size + 1, 0, none⟩ = some (.int .i64 2) ∧ MapIAt w' hq vE)
   (first
     | exact dd
     | go_keep)
   (fail)
 rename_i hHeld;clear dd hHeld HLk HFd c0 c1 c2 c3;go_wp2_with fail;refine(HI.out _).mono ?_;rintro e w2 ⟨rfl,rfl⟩;go_wp2;go_ret;exact⟨dAA (by rw[HT.out];exact ByteArray.ext (by simp)),sv,HP1.out.under (bA (Under.refl _)),Ch.of_under (HU1.out.trans (bA (Under.refl _))),fun b _ e=>e⟩
theorem rXA(x:Nd)(l:List Tm)(h1:x.k=0):jJ (.mk x l):=by
 rintro hok hd hn W0 w pb hq tb ks st av sv tv hW hS hP hT hv hA ha hst hss hin;have hx:=hok.1;have hte:(flat (.mk x l))[(flat (.mk x l)).length - 1]? = some x:=by rw[flat];simp
 have hpos:1≤(flat (.mk x l)).length:=by rw[flat];simp
 obtain⟨p,c,rfl,hc,hp0,hr⟩:=hv;obtain⟨b,off,rfl,hb,c0,c1,c2,c3⟩:=RowArg.node hr hte;obtain⟨M,hM⟩:∃ M,(flat (.mk x l)).length=M+1:=⟨(flat (.mk x l)).length - 1,by omega⟩;rw[hM]at c0 c1 c2 c3;simp only[Nat.add_sub_cancel]at c0 c1 c2 c3;have hM0:(0:Int)≤(M:Int):=by omega
 have hM4:(M:Int)≤4000:=by omega
 have hMi:((M:Int)+1 - 1)=(M:Int):=by omega
 have hk:=oH hx;obtain⟨w1,hw1⟩:∃ w1,w1=(w.alloc (.cells #[.pointer (some ⟨pb,0,none⟩)] 88)).alloc (.cells #[.int .i64 x.k,.int .i64 x.n,.int .i64 x.m,.string x.s] 76):=⟨_,rfl⟩;have hU1:Under w w1:=by rw[hw1];exact aA (aA (Under.refl w) _) _
 have hB1:BoxAt w1 w.heap.size 88 #[.pointer (some ⟨pb,0,none⟩)]:=by rw[hw1];exact(yA w _ _).alloc _
 have hB2:BoxAt w1 (w.heap.size+1) 76 #[.int .i64 x.k,.int .i64 x.n,.int .i64 x.m,.string x.s]:=by
  have:=yA (w.alloc (.cells #[.pointer (some ⟨pb,0,none⟩)] 88)) #[.int .i64 x.k,.int .i64 x.n,.int .i64 x.m,.string x.s] 76;rw[World.size_alloc]at this;rw[hw1];exact this
 have hP1:=hP.under hU1;have d0:w1.cell? ⟨w.heap.size,0,none⟩=some (.pointer (some ⟨pb,0,none⟩)):=hB1.cell 0;have d1:w1.cell? ⟨pb,0,none⟩=some (.map (some hq)):=hP1.box.cell 0;have d2:w1.cell? ⟨w.heap.size+1,0,none⟩=some (.int .i64 x.k):=hB2.cell 0;have d3:MapIAt w1 hq vE:=hP1.heads;have hv2:=xJ hx h1;unfold inT at hin;rw[if_pos h1]at hin;obtain⟨u,hu⟩:∃ u:Nat,x.n=u:=⟨x.n.toNat,by omega⟩;rw[hu]at hin hv2;obtain⟨m',hm'⟩:∃ m,st.length=m+(u+1):=⟨st.length - (u+1),by omega⟩;have hml:m' < st.length:=by omega
 have HT:RowKit.Hid (aG av (.mk x l) st=st[m'].data.toList):=Lib.hid (by unfold aG;rw[if_pos h1,hu,Int.toNat_natCast,show st.length - 1 - u=m' by omega,List.getD_eq_getElem?_getD,List.getElem?_eq_getElem hml];rfl);generalize aG av (.mk x l) st=R at *;obtain⟨g,gc,rfl,hg,_,hgl,_,_⟩:=wC hP1.row (by omega);have d4:w1.cell? ⟨g,m',none⟩=some (.string st[m']):=lC hP1.row hg (by simp[List.getElem?_eq_getElem hml]);have d5:w1.cell? ⟨pb,2,none⟩=some (.slice (some ⟨g,0,none⟩) st.length gc):=hP1.box.cell 2;have d6:w1.cell? ⟨w.heap.size+1,1,none⟩=some (.int .i64 x.n):=hB2.cell 1;generalize st[m']=y at *;have HSt:=Lib.hid hm';rw[hm']at d5;have i1:(m':Int)+((u:Int)+1) - 1=m'+u:=by omega
 have i2:(m':Int)+(u:Int) - u=m':=by omega
 have i3:(0:Int)≤m':=by omega
 have i4:(0:Int)≤u:=by omega
 have i5:(m':Int)≤100000:=by omega
 have i6:(u:Int)≤100:=by omega
 have i9:IntKind.i64.wrap ((m':Int)+(u:Int))=(m':Int)+u:=by rw[IntKind.wrap_i64];omega
 have i11:IntKind.i64.wrap (m':Int)=(m':Int):=by rw[IntKind.wrap_i64];omega
 have i7:(m':Int) < (m':Int)+((u:Int)+1):=by omega
 have i8:(m':Int) < ((m'+(u+1):Nat):Int):=by omega
 rw[hu]at d6;have HFd:=aM;have HLk:=fun(w':World) (h:MapIAt w' hq vE)=>bM h hk.1 hk.2
 rw [hM]; subst hw1; have HU1 := Lib.hid hU1; have HB1 := Lib.hid hB1; have HB2 := Lib.hid hB2; have HP1 := Lib.hid hP1; have dd := And.intro d0 (And.intro d1 (And.intro d2 d3)); have HK := Lib.hid hk; rw [hM] at hc; have de := And.intro d0 (And.intro d5 (And.intro d6 d4)); clear hte hr hok hin hst hss hA hT hS hW hP hU1 hB1 hB2 hP1 hpos hn hM hp0 hx hd d0 d1 d2 d3 hk d4 d5 d6 hm' hml; obtain ⟨k, n, m, s⟩ := x; simp only at *; subst h1 hu; go_enter Tryz.func44, Tryz.ntmps44; go_wp2_with fail; go_region_held3 (fun w' => w'.cell? ⟨w.heap.size, 0, none⟩ = some (.pointer (some ⟨pb, 0, none⟩)) ∧ w'.cell? ⟨pb, 0, none⟩ = some (.map (some hq)) ∧ w'.cell? ⟨w.heap.size + 1, 0, none⟩ = some (.int .i64 0) ∧ MapIAt w' hq vE)
   (first
     | exact dd
     | go_keep)
   (fail)
 rename_i hHeld; clear dd hHeld HLk HFd c0 c1 c2 c3; go_wp2_with fail; go_region_held3 (fun w' => w'.cell? ⟨w.heap.size, 0, none⟩ = some (.pointer (some ⟨pb, 0, none⟩)) ∧ w'.cell? ⟨pb, 2, none⟩ = some (.slice (some ⟨g, 0, none⟩) (m' + (u + 1)) gc) ∧ w'.cell? ⟨w.heap.size + 1, 1, none⟩ = some (.int .i64 (u : Int)) ∧ w'.cell? ⟨g, m', none⟩ = some (.string y))
   (first
     | exact de
     | go_keep)
   (fail)
 rename_i hHeld;clear de hHeld;go_wp2;go_ret;exact⟨dAA (by rw[HT.out,eY]),_,HP1.out.under (bA (bA (Under.refl _))),Ch.of_under (HU1.out.trans (bA (bA (Under.refl _)))),fun b _ e=>e⟩
end Go.Proofs.YtlnlpdephijcoaaGreatDoor
