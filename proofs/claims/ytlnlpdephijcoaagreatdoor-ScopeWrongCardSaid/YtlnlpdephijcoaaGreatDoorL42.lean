/- Part 42 of what the proof rests on. -/
import Derived.Deep.RegionHeld3
import Derived.Test.YtlnlpdephijcoaaGreatDoorL41
set_option linter.unusedSimpArgs false
set_option linter.unusedVariables false
set_option maxRecDepth 100000
set_option maxHeartbeats 4000000
namespace Go.Proofs.YtlnlpdephijcoaaGreatDoor
open Go.Lx Go.RowKit
theorem zXA(pp:Int):cLA (.list pp []):=by
 rintro w0 q cap p1 p2 d1 d2 bv st cs ds hok hn hcap hq hcs hds hcl hdl hb hbl;have hst':nK []:=hok;have hl1:(uA (.list pp [])).length=(fA []).length+1:=by rw[uA];simp
 have hq':SxArg w0 q (fA []):=qKA (by rw[uA]at hq;exact hq);have HLa:=Lib.hid (fun w' (hU:Under w0 w')=>gI (w0:=w') (.list pp []) (q:=q) (cap:=cap) (by omega) (hq.under hU));have HIt:=Lib.hid (fun w' (hU:Under w0 w')=>tN (w0:=w') (cap:=cap) (fA []) (p:=q) (by omega) (by omega) (hq'.under hU));rw[oH hst']at HIt;rw[hl1]at hn hcap hbl HLa ⊢;rw[aG];clear hok hq hq' hl1;have HNn:=Lib.hid (And.intro hn (And.intro hcap hbl));have HTx:=Lib.hid (And.intro hcs (And.intro hds hb));have hfl0:(0:Int)≤((fA []).length:Int):=by omega
 have hfl9:((fA []).length:Int)≤20000:=by omega
 clear hcs hds hb;go_enter Tryz.func32,Tryz.ntmps32;go_wp2_with fail;have HU0:=Lib.hid (show Under w0 ((w0.alloc (.cells #[.slice p1 cs.length d1,.slice p2 ds.length d2] 35)).alloc (.cells #[.int .i64 0,.int .i64 0] 70)) from aA (aA (Under.refl _) _) _);have HNa:=Lib.hid ((xA w0 #[.slice p1 cs.length d1,.slice p2 ds.length d2] 35).alloc (.cells #[.int .i64 0,.int .i64 0] 70));have hFa:=xA (w0.alloc (.cells #[.slice p1 cs.length d1,.slice p2 ds.length d2] 35)) #[.int .i64 0,.int .i64 0] 70;rw[World.size_alloc]at hFa;have HFa:=Lib.hid hFa;clear hFa;refine(HLa.out _ HU0.out).mono ?_;rintro e w1 ⟨rfl,hU1⟩;simp only[ST.last,sxV];have hUx:=aA hU1 (.cells #[.int .i64 ((([]:List ST).length:Int)),.int .i64 pp,.string ⟨#[]⟩] 73);have hX1:=xA w1 #[.int .i64 ((([]:List ST).length:Int)),.int .i64 pp,.string ⟨#[]⟩] 73;have hs2:(w1.alloc (.cells #[.int .i64 ((([]:List ST).length:Int)),.int .i64 pp,.string ⟨#[]⟩] 73)).heap.size=w1.heap.size+1:=by rw[World.size_alloc]
 have x0:(w1.alloc (.cells #[.int .i64 ((([]:List ST).length:Int)),.int .i64 pp,.string ⟨#[]⟩] 73)).cell? ⟨w1.heap.size,0,none⟩=some (.int .i64 ((([]:List ST).length:Int))):=hX1.cell 0;have x1:(w1.alloc (.cells #[.int .i64 ((([]:List ST).length:Int)),.int .i64 pp,.string ⟨#[]⟩] 73)).cell? ⟨w1.heap.size,1,none⟩=some (.int .i64 pp):=hX1.cell 1;have x2:(w1.alloc (.cells #[.int .i64 ((([]:List ST).length:Int)),.int .i64 pp,.string ⟨#[]⟩] 73)).cell? ⟨w1.heap.size,2,none⟩=some (.string ⟨#[]⟩):=hX1.cell 2;have xl:=hX1.lt;have HUx:=Lib.hid (HU0.out.trans hUx);have HNx:=Lib.hid (HNa.out.under hUx);have HFx:=Lib.hid (HFa.out.under hUx);have hlo1:=hU1.size;rw[World.size_alloc,World.size_alloc]at hlo1;clear hU1 hUx hX1 HU0 HNa HFa HLa;go_wp2_with fail;generalize w1.alloc (.cells #[.int .i64 ((([]:List ST).length:Int)),.int .i64 pp,.string ⟨#[]⟩] 73)=w2 at *;have hW3:BoxAt (w2.alloc (.cells #[.int .i64 71,.int .i64 pp] 70)) (w1.heap.size+1) 70 #[.int .i64 71,.int .i64 pp]:=by rw[← hs2];exact xA w2 #[.int .i64 71,.int .i64 pp] 70
 have hU3:=aA (Under.refl w2) (.cells #[.int .i64 71,.int .i64 pp] 70);have HU3:=Lib.hid (HUx.out.trans hU3);refine(HIt.out _ HU3.out).mono ?_;rintro e w4 ⟨hU4,g,c2,vs,rfl,ho1,ho2⟩;obtain⟨hc2,hts⟩:=oWA hU4 ho1 ho2;have HTs:=Lib.hid hts;have HU4:=Lib.hid (HU3.out.trans hU4);have HNm:=Lib.hid (HNx.out.under (hU3.trans hU4));have HFt:=Lib.hid (HFx.out.under (hU3.trans hU4));have HWb:=Lib.hid (hW3.under hU4);have hwb:w0.heap.size+1 < w1.heap.size+1:=by omega
 rw[List.length_map];clear hU3 hU4 hW3 ho1 ho2 hts HU3 HNx HFx HUx HIt x0 x1 x2 xl hs2 hlo1;generalize w1.heap.size+1=wb at *;generalize w1.heap.size=xb at *;have HErr:RowKit.Hid (uE cs ds pp [] st = .error (71,pp)):=Lib.hid (by rw[uE]);rw[List.length_nil];have g0:w4.cell? ⟨wb,0,none⟩=some (.int .i64 71):=HWb.out.cell 0;have g1:w4.cell? ⟨wb,1,none⟩=some (.int .i64 pp):=HWb.out.cell 1;have gl:=HWb.out.lt;have f0:w4.cell? ⟨w0.heap.size+1,0,none⟩=some (.int .i64 0):=HFt.out.cell 0;have f1:w4.cell? ⟨w0.heap.size+1,1,none⟩=some (.int .i64 0):=HFt.out.cell 1;have fl:=HFt.out.lt;have ff0:=HFt.out.free 0;have ff1:=HFt.out.free 1;have fne:w0.heap.size+1≠wb:=by omega
 go_wp2_with fail; go_region_held3 (fun w' => w'.cell? ⟨wb, 0, none⟩ = some (.int .i64 71) ∧ w'.cell? ⟨wb, 1, none⟩ = some (.int .i64 pp))
   (first
     | exact⟨g0,g1⟩
     | go_keep)
   (fail)
 rename_i hHeld;clear hHeld;go_wp2;have hlow:w0.heap.size≤w0.heap.size+1:=by omega
 have hFE:=(HFt.out.set 0 (.int .i64 71)).set 1 (.int .i64 pp);have hUE:=bA (qA (qA (HU4.out) hlow 0 (.int .i64 71)) hlow 1 (.int .i64 pp));have e0:((w4.setCell ⟨w0.heap.size+1,0,none⟩ (.int .i64 71)).setCell ⟨w0.heap.size+1,1,none⟩ (.int .i64 pp)).cell? ⟨w0.heap.size+1,0,none⟩=some (.int .i64 71):=hFE.cell 0;have e1:((w4.setCell ⟨w0.heap.size+1,0,none⟩ (.int .i64 71)).setCell ⟨w0.heap.size+1,1,none⟩ (.int .i64 pp)).cell? ⟨w0.heap.size+1,1,none⟩=some (.int .i64 pp):=hFE.cell 1;generalize (w4.setCell ⟨w0.heap.size+1,0,none⟩ (.int .i64 71)).setCell ⟨w0.heap.size+1,1,none⟩ (.int .i64 pp)=wE at *;refine bodyPost_ret (v:=.tuple #[.slice none 0 0,.agg #[.int .i64 71,.int .i64 pp]]) ((dC rfl _ _ _).trans ?_) rfl ⟨hUE,by rw[HErr.out]⟩;simp[go_sem,e0,e1]
theorem tRA {k : Nat} : ∀ {l : List UInt8}, 110 ∈ sM k l → 110 ∈ l
  | [],h=>by simp[sM]at h
  | c :: l, h => by
    rw[sM]at h;rcases List.mem_append.1 h with h | h
    · split at h
      · simp at h
      · split at h
        · simp at h
        · exact List.mem_cons.2 (.inl (List.mem_singleton.1 h))
    · exact List.mem_cons_of_mem _ (tRA h)
theorem cQA{l r:List UInt8}{n:Nat}(h:sG l n=some r)(hn:110∈r):110∈l:=by
 unfold sG at h
 split at h
 · cases h
 · cases h;exact tRA hn
theorem dDA {w0 w8 wN : World} {fo g c2 : Nat} {p1 p2 : Option Addr} {d1 d2 : Nat} {bv : Value} {kk nn : Int} {st cs ds : List ByteArray} {hd : ST} {l : List ST} {lst : List UInt8} {rs : ByteArray} {x : Nd} {R : Say}
    (hU:Under w0 w8) (hN:Under w8 wN) (hNb:BoxAt wN w8.heap.size 76 (eQ x)) (hna:BoxAt w8 w0.heap.size 35 #[.slice p1 cs.length d1,.slice p2 ds.length d2]) (hft:BoxAt w8 (w0.heap.size+1) 70 #[.int .i64 0,.int .i64 0])
    (hfo:BoxAt w8 fo 78 #[.int .i64 kk,.int .i64 nn,.string rs]) (hts:TsArg (fun _=>False) w8 (some ⟨g,0,none⟩) (hd::l)) (hT:TextsV w0 (.slice p1 cs.length d1) cs∧TextsV w0 (.slice p2 ds.length d2) ds∧TextsV w0 bv st) (hok:nK l)
    (h1:(fA l).length≤20000) (h2:st.length+(fA l).length≤50000) (hcl:cs.length≤1000000) (hdl:ds.length≤1000000) (hpl:lst.length=l.length) (hnum:110∈lst→kk=2∨kk=26) :
    UgOk ⟨w0,wN,w0.heap.size,w0.heap.size+1,fo,w8.heap.size,.slice p1 cs.length d1,.slice p2 ds.length d2,bv,kk,nn,st,cs,ds,hd,l,lst,rs,some ⟨g,0,none⟩,c2,R⟩ where
  und:=hU.trans hN
  names:=hna.under hN
  form:=hfo.under hN
  fault:=hft.under hN
  node:=⟨_,hNb⟩
  nlt:=hNb.lt
  nlo:=hU.size
  flo:=Nat.le_succ _
  arg:=by
   have:=hts.more (nb:=w8.heap.size) (Nat.le_refl _);simp only[false_or]at this;exact this.ch (D:=fun b=>b=w8.heap.size) (Ch.of_under hN)
  bound:=hT.2.2
  ok:=hok
  len:=h1
  stl:=h2
  csT:=hT.1
  dsT:=hT.2.1
  csl:=hcl
  dsl:=hdl
  plen:=hpl
  num:=hnum
theorem rCA{F:UgFix}{x:Nd}(hN:BoxAt F.wl F.nb 76 (eQ x))(hk:x.k=F.kk)(hs:F.R=goS F.cs F.ds (tC F.parts) F.ts x [] F.st []) :
 UgS F 0 [] x [] (.slice (some ⟨F.wl.heap.size,0,none⟩) 0 0) (.slice (some ⟨F.wl.heap.size+1,0,none⟩) 0 0) ((F.wl.alloc (.cells #[] 76)).alloc (.cells #[] 9)):=by
 refine⟨Ch.of_under (aA (aA (Under.refl _) _) _),(hN.alloc _).alloc _,hk,(wI F.wl F.wl.heap.size 76 4 (Nat.le_refl _)).alloc _,?_,hs,Nat.le_refl _,Nat.zero_le _⟩;have:=wI (F.wl.alloc (.cells #[] 76)) F.wl.heap.size 9 1 (by rw[World.size_alloc];omega)
 rwa [World.size_alloc]at this
theorem hNA{F:UgFix}(hF:UgOk F){nms:List ByteArray}{x:Nd}{t:List Nd}{ov nv:Value}{w:World}(h:UgS F F.ts.length nms x t ov nv w):F.R = .ok (t++[x]):=by
 rw[h.say,List.drop_eq_nil_of_le (by rw[hF.plen];exact Nat.le_refl _),List.drop_eq_nil_of_le (Nat.le_refl _)];simp[tC,goS]
theorem jU{w0 w':World}{fb:Nat}{v:Value}{c p:Int}{R:Say}{J:Nat→Value}(hb:BoxAt w' fb 70 #[.int .i64 c,.int .i64 p])(hO:bEA w0 R (.returned (.tuple #[v,.agg #[.int .i64 c,.int .i64 p]])) w') :
 bodyPost Tryz.prog Tryz.f32 (bEA w0 R) .ret ⟨lL fb v J,[]⟩ w':=by
 have e0:w'.cell? ⟨fb,0,none⟩=some (.int .i64 c):=hb.cell 0;have e1:w'.cell? ⟨fb,1,none⟩=some (.int .i64 p):=hb.cell 1;unfold lL;refine bodyPost_ret (v:=.tuple #[v,.agg #[.int .i64 c,.int .i64 p]]) ((dC rfl _ _ _).trans ?_) rfl hO;simp[go_sem,e0,e1]
theorem bUA(a b:Int)(s:ByteArray)(w:World):(Instr.field 73 (.agg #[.int .i64 a,.int .i64 b,.string s]) 2).run Tryz.prog w = .ok (.string s) w:=by kernel_rfl
theorem yVA{s:ByteArray}(h:s.size≠0):s.toList.isEmpty=false:=by
 rw[ByteArray.toList_eq]
 cases hc:s.data.toList with
 | nil=>exact absurd (by rw[ByteArray.size,← Array.length_toList,hc];rfl) h
 | cons a l=>rfl
theorem sNA{s:ByteArray}(h:s.size=0):s=⟨#[]⟩:=by
 apply ByteArray.ext;exact Array.eq_empty_of_size_eq_zero h
def yZA(t:List UInt8×Int×Int×List UInt8):Bool:=decide ((jF (qN t.2.2.2)).length≤20)&&(t.2.1 != 26||t.2.2.2==[100,110,42])&&(t.2.1 != 27||t.2.2.2==[100,118,46,42,46])&&(decide (t.2.1=26)||decide (t.2.1=2) || !(jF (qN t.2.2.2)).contains 110)&&(decide (t.2.1=26)||decide (t.2.1=27) || !(jF (qN t.2.2.2)).contains 42)
theorem vLA{w parts:List UInt8}{k n:Int}(h:(w,k,n,parts)∈formT):(jF (qN parts)).length≤20∧(k=26→parts=[100,110,42])∧(k=27→parts=[100,118,46,42,46])∧(110∈jF (qN parts)→k=2∨k=26):=by
 have ha:formT.all yZA=true:=by decide
 have:=List.all_eq_true.1 ha _ h;simp only[yZA,Bool.and_eq_true,Bool.or_eq_true,decide_eq_true_eq,bne_iff_ne,beq_iff_eq,Bool.not_eq_true',List.contains_eq_mem,decide_eq_false_iff_not]at this;obtain⟨⟨⟨⟨h1,h2⟩,h3⟩,h4⟩,_⟩:=this;refine⟨h1,fun e=>h2.resolve_left (fun h=>h e),fun e=>h3.resolve_left (fun h=>h e),fun e=>?_⟩;rcases h4 with(h4 | h4) | h4
 · exact .inr h4
 · exact .inl h4
 · exact absurd e h4
theorem eTA(pp:Int)(hd:ST)(l:List ST)(ih:∀ y∈l,cLA y):cLA (.list pp (hd::l)):=by
 have HIh:=Lib.hid ih;clear ih;rintro w0 q cap p1 p2 d1 d2 bv st cs ds hok hn hcap hq hcs hds hcl hdl hb hbl;have hst':nK (hd::l):=hok;have hl1:(uA (.list pp (hd::l))).length=(fA (hd::l)).length+1:=by rw[uA];simp
 have hq':SxArg w0 q (fA (hd::l)):=qKA (by rw[uA]at hq;exact hq);have HLa:=Lib.hid (fun w' (hU:Under w0 w')=>gI (w0:=w') (.list pp (hd::l)) (q:=q) (cap:=cap) (by omega) (hq.under hU));have HIt:=Lib.hid (fun w' (hU:Under w0 w')=>tN (w0:=w') (cap:=cap) (fA (hd::l)) (p:=q) (by omega) (by omega) (hq'.under hU));rw[oH hst']at HIt;rw[hl1]at hn hcap hbl HLa ⊢;rw[aG];clear hok hq hq' hl1;have HNn:=Lib.hid (And.intro hn (And.intro hcap hbl));have HTx:=Lib.hid (And.intro hcs (And.intro hds hb));have hfl0:(0:Int)≤((fA (hd::l)).length:Int):=by omega
 have hfl9:((fA (hd::l)).length:Int)≤20000:=by omega
 clear hcs hds hb;go_enter Tryz.func32,Tryz.ntmps32;go_wp2_with fail;have HU0:=Lib.hid (show Under w0 ((w0.alloc (.cells #[.slice p1 cs.length d1,.slice p2 ds.length d2] 35)).alloc (.cells #[.int .i64 0,.int .i64 0] 70)) from aA (aA (Under.refl _) _) _);have HNa:=Lib.hid ((xA w0 #[.slice p1 cs.length d1,.slice p2 ds.length d2] 35).alloc (.cells #[.int .i64 0,.int .i64 0] 70));have hFa:=xA (w0.alloc (.cells #[.slice p1 cs.length d1,.slice p2 ds.length d2] 35)) #[.int .i64 0,.int .i64 0] 70;rw[World.size_alloc]at hFa;have HFa:=Lib.hid hFa;clear hFa;refine(HLa.out _ HU0.out).mono ?_;rintro e w1 ⟨rfl,hU1⟩;simp only[ST.last,sxV];have hUx:=aA hU1 (.cells #[.int .i64 ((l.length:Int)+1),.int .i64 pp,.string ⟨#[]⟩] 73);have hX1:=xA w1 #[.int .i64 ((l.length:Int)+1),.int .i64 pp,.string ⟨#[]⟩] 73;have hs2:(w1.alloc (.cells #[.int .i64 ((l.length:Int)+1),.int .i64 pp,.string ⟨#[]⟩] 73)).heap.size=w1.heap.size+1:=by rw[World.size_alloc]
 have x0:(w1.alloc (.cells #[.int .i64 ((l.length:Int)+1),.int .i64 pp,.string ⟨#[]⟩] 73)).cell? ⟨w1.heap.size,0,none⟩=some (.int .i64 ((l.length:Int)+1)):=hX1.cell 0;have x1:(w1.alloc (.cells #[.int .i64 ((l.length:Int)+1),.int .i64 pp,.string ⟨#[]⟩] 73)).cell? ⟨w1.heap.size,1,none⟩=some (.int .i64 pp):=hX1.cell 1;have x2:(w1.alloc (.cells #[.int .i64 ((l.length:Int)+1),.int .i64 pp,.string ⟨#[]⟩] 73)).cell? ⟨w1.heap.size,2,none⟩=some (.string ⟨#[]⟩):=hX1.cell 2;have xl:=hX1.lt;have HUx:=Lib.hid (HU0.out.trans hUx);have HNx:=Lib.hid (HNa.out.under hUx);have HFx:=Lib.hid (HFa.out.under hUx);have hlo1:=hU1.size;rw[World.size_alloc,World.size_alloc]at hlo1;clear hU1 hUx hX1 HU0 HNa HFa HLa;go_wp2_with fail;generalize w1.alloc (.cells #[.int .i64 ((l.length:Int)+1),.int .i64 pp,.string ⟨#[]⟩] 73)=w2 at *;have hW3:BoxAt (w2.alloc (.cells #[.int .i64 71,.int .i64 pp] 70)) (w1.heap.size+1) 70 #[.int .i64 71,.int .i64 pp]:=by rw[← hs2];exact xA w2 #[.int .i64 71,.int .i64 pp] 70
 have hU3:=aA (Under.refl w2) (.cells #[.int .i64 71,.int .i64 pp] 70);have HU3:=Lib.hid (HUx.out.trans hU3);refine(HIt.out _ HU3.out).mono ?_;rintro e w4 ⟨hU4,g,c2,vs,rfl,ho1,ho2⟩;obtain⟨hc2,hts⟩:=oWA hU4 ho1 ho2;have HTs:=Lib.hid hts;have HU4:=Lib.hid (HU3.out.trans hU4);have HNm:=Lib.hid (HNx.out.under (hU3.trans hU4));have HFt:=Lib.hid (HFx.out.under (hU3.trans hU4));have HWb:=Lib.hid (hW3.under hU4);have hwb:w0.heap.size+1 < w1.heap.size+1:=by omega
 rw[List.length_map];clear hU3 hU4 hW3 ho1 ho2 hts HU3 HNx HFx HUx HIt x0 x1 x2 xl hs2 hlo1;generalize w1.heap.size+1=wb at *;generalize w1.heap.size=xb at *;have hlen1:(uA hd).length≤20000:=by have:=qH (l:=hd::l) (a:=hd) (by simp);have:=HNn.out.1;omega
 have hll:l.length≤20000:=by have:=kH (hd::l);have:=HNn.out.1;simp at *;omega
 obtain⟨b,off,hg,hbl,_,hat⟩:=HTs.out (by simp)
 cases hg;obtain⟨qh,ch,kh,hch,hsh,_⟩:=hat 0 hd rfl;rw[Nat.add_zero]at kh;have HLh:=Lib.hid (fun w' (hU:Under w4 w')=>gI (w0:=w') hd (q:=qh) (cap:=ch) (by omega) (hsh.under hU));have HFd:=bUA hd.last.many hd.last.pos hd.last.word;rw[List.length_cons];have hl0:(((l.length:Int)+1)==0)=false:=by simp;omega
 have hl1:(0:Int) < (l.length:Int)+1:=by omega
 have hl9:(l.length:Int)≤20000:=by omega
 clear hat hsh hch;go_wp2_with fail;refine(HLh.out _ (Under.refl _)).mono ?_;rintro e w5 ⟨rfl,hU5⟩;unfold sxV;have kh5:=(jA hU5 hbl _).trans kh;have hbl5:=Nat.lt_of_lt_of_le hbl hU5.size;have HUb:=Lib.hid hU5;have HU4:=Lib.hid (HU4.out.trans hU5);have HNm:=Lib.hid (HNm.out.under hU5);have HFt:=Lib.hid (HFt.out.under hU5);have HWb:=Lib.hid (HWb.out.under hU5);have HTs:=Lib.hid (HTs.out.ch (D:=fun _=>False) (Ch.of_under hU5));clear hU5;by_cases hz:hd.last.word.size=0
 · have hemp := sNA hz; have HErr : RowKit.Hid (uE cs ds pp (hd :: l) st = .error (71, pp)) := Lib.hid (by rw [uE, hemp]; rfl); rw [hemp] at HFd ⊢; have g0 : w5.cell? ⟨wb, 0, none⟩ = some (.int .i64 71) := HWb.out.cell 0; have g1 : w5.cell? ⟨wb, 1, none⟩ = some (.int .i64 pp) := HWb.out.cell 1; have gl := HWb.out.lt; have f0 : w5.cell? ⟨w0.heap.size + 1, 0, none⟩ = some (.int .i64 0) := HFt.out.cell 0; have f1 : w5.cell? ⟨w0.heap.size + 1, 1, none⟩ = some (.int .i64 0) := HFt.out.cell 1; have fl := HFt.out.lt; have ff0 := HFt.out.free 0; have ff1 := HFt.out.free 1; have fne : w0.heap.size + 1 ≠ wb := by omega
   go_wp2_with fail; go_region_held3 (fun w' => w'.cell? ⟨wb, 0, none⟩ = some (.int .i64 71) ∧ w'.cell? ⟨wb, 1, none⟩ = some (.int .i64 pp))
     (first
       | exact⟨g0,g1⟩
       | go_keep)
     (fail)
   rename_i hHeld;clear hHeld;go_wp2;have hlow:w0.heap.size≤w0.heap.size+1:=by omega
   have hFE:=(HFt.out.set 0 (.int .i64 71)).set 1 (.int .i64 pp);have hUE:=bA (qA (qA (HU4.out) hlow 0 (.int .i64 71)) hlow 1 (.int .i64 pp));have e0:((w5.setCell ⟨w0.heap.size+1,0,none⟩ (.int .i64 71)).setCell ⟨w0.heap.size+1,1,none⟩ (.int .i64 pp)).cell? ⟨w0.heap.size+1,0,none⟩=some (.int .i64 71):=hFE.cell 0;have e1:((w5.setCell ⟨w0.heap.size+1,0,none⟩ (.int .i64 71)).setCell ⟨w0.heap.size+1,1,none⟩ (.int .i64 pp)).cell? ⟨w0.heap.size+1,1,none⟩=some (.int .i64 pp):=hFE.cell 1;generalize (w5.setCell ⟨w0.heap.size+1,0,none⟩ (.int .i64 71)).setCell ⟨w0.heap.size+1,1,none⟩ (.int .i64 pp)=wE at *;refine bodyPost_ret (v:=.tuple #[.slice none 0 0,.agg #[.int .i64 71,.int .i64 pp]]) ((dC rfl _ _ _).trans ?_) rfl ⟨hUE,by rw[HErr.out]⟩;simp[go_sem,e0,e1]
 · have hs1 := yVA hz; have HFo := Lib.hid (fun w' => mHA (w0 := w') hd.last.word)
   cases hf:uM hd.last.word with
   | none =>
     have HErr:RowKit.Hid (uE cs ds pp (hd::l) st = .error (71,pp)):=Lib.hid (by rw[uE,hf]);rw[fEA,hf]at HFo;go_wp2_with fail;refine(HLh.out _ HUb.out).mono ?_;rintro e w6 ⟨rfl,hU6⟩;unfold sxV;have HU4:=Lib.hid (HU4.out.trans hU6);have HNm:=Lib.hid (HNm.out.under hU6);have HFt:=Lib.hid (HFt.out.under hU6);have HWb:=Lib.hid (HWb.out.under hU6);have HTs:=Lib.hid (HTs.out.ch (D:=fun _=>False) (Ch.of_under hU6));clear hU6;go_wp2_with fail;refine(HFo.out _).mono ?_;rintro e w7 ⟨rfl,hU7⟩;have hUq:=hU7.trans (aA (Under.refl w7) (.cells #[.int .i64 0,.int .i64 0,.string ⟨#[]⟩] 78));have HU4:=Lib.hid (HU4.out.trans hUq);have HNm:=Lib.hid (HNm.out.under hUq);have HFt:=Lib.hid (HFt.out.under hUq);have HWb:=Lib.hid (HWb.out.under hUq);have HTs:=Lib.hid (HTs.out.ch (D:=fun _=>False) (Ch.of_under hUq));clear hU7 hUq;go_wp2_with fail;generalize w7.alloc (.cells #[.int .i64 0,.int .i64 0,.string ⟨#[]⟩] 78)=w8 at *;have g0:w8.cell? ⟨wb,0,none⟩=some (.int .i64 71):=HWb.out.cell 0;have g1:w8.cell? ⟨wb,1,none⟩=some (.int .i64 pp):=HWb.out.cell 1;have gl:=HWb.out.lt;have f0:w8.cell? ⟨w0.heap.size+1,0,none⟩=some (.int .i64 0):=HFt.out.cell 0;have f1:w8.cell? ⟨w0.heap.size+1,1,none⟩=some (.int .i64 0):=HFt.out.cell 1;have fl:=HFt.out.lt;have ff0:=HFt.out.free 0;have ff1:=HFt.out.free 1;have fne:w0.heap.size+1≠wb:=by omega
     go_wp2_with fail; go_region_held3 (fun w' => w'.cell? ⟨wb, 0, none⟩ = some (.int .i64 71) ∧ w'.cell? ⟨wb, 1, none⟩ = some (.int .i64 pp))
       (first
         | exact⟨g0,g1⟩
         | go_keep)
       (fail)
     rename_i hHeld;clear hHeld;go_wp2;have hlow:w0.heap.size≤w0.heap.size+1:=by omega
     have hFE:=(HFt.out.set 0 (.int .i64 71)).set 1 (.int .i64 pp);have hUE:=bA (qA (qA (HU4.out) hlow 0 (.int .i64 71)) hlow 1 (.int .i64 pp));have e0:((w8.setCell ⟨w0.heap.size+1,0,none⟩ (.int .i64 71)).setCell ⟨w0.heap.size+1,1,none⟩ (.int .i64 pp)).cell? ⟨w0.heap.size+1,0,none⟩=some (.int .i64 71):=hFE.cell 0;have e1:((w8.setCell ⟨w0.heap.size+1,0,none⟩ (.int .i64 71)).setCell ⟨w0.heap.size+1,1,none⟩ (.int .i64 pp)).cell? ⟨w0.heap.size+1,1,none⟩=some (.int .i64 pp):=hFE.cell 1;generalize (w8.setCell ⟨w0.heap.size+1,0,none⟩ (.int .i64 71)).setCell ⟨w0.heap.size+1,1,none⟩ (.int .i64 pp)=wE at *;refine bodyPost_ret (v:=.tuple #[.slice none 0 0,.agg #[.int .i64 71,.int .i64 pp]]) ((dC rfl _ _ _).trans ?_) rfl ⟨hUE,by rw[HErr.out]⟩;simp[go_sem,e0,e1]
   | some y =>
     obtain⟨kk,nn,parts⟩:=y;have hm:=q8 hf;have HSp:=Lib.hid (yMA hm l.length);have HSm:=Lib.hid (vLA hm);have HHf:=Lib.hid hf;have h20:=HSm.out.1;obtain⟨rs,hrs⟩:∃ z:ByteArray,z=⟨(qN parts).toArray⟩:=⟨_,rfl⟩;obtain⟨os,hos⟩:∃ z:ByteArray,z=⟨(jF (qN parts)).toArray⟩:=⟨_,rfl⟩;have hpd:∀ x:List UInt8,(⟨x.toArray⟩:ByteArray).data.toList=x:=fun x=>by simp
     have HFo : RowKit.Hid (∀ w', Calls Tryz.prog 36 #[.string hd.last.word] w' fun e w => e = .returned (.tuple #[.agg #[.int .i64 kk, .int .i64 nn, .string rs], .bool true]) ∧ Under w' w) := Lib.hid (fun w' => by
       have:=HFo.out w';rw[fEA,hf]at this;rw[hrs];exact this)
     have HOd : RowKit.Hid (∀ w', Calls Tryz.prog 66 #[.string rs] w' fun e w => e = .returned (.string os) ∧ w = w') := Lib.hid (fun w' => by
       have:=pQA (w0:=w') rs;rw[hrs,hpd]at this;rw[hrs,hos];exact this)
     have HSd : RowKit.Hid (∀ w', Calls Tryz.prog 65 #[.string os, .int .i64 (l.length : Int)] w' fun e w => e = .returned (match sG (jF (qN parts)) l.length with | none => .tuple #[.string ⟨#[]⟩, .bool false] | some l => .tuple #[.string ⟨l.toArray⟩, .bool true]) ∧ w = w') := Lib.hid (fun w' => by
       have:=tLA (w0:=w') os l.length (by rw[hos];simpa [ByteArray.size] using h20) (by omega);rw[hos,hpd]at this;rw[hos];exact this)
     have hmi:((l.length:Int)+1 - 1)=(l.length:Int):=by omega
     clear hm hf h20 hpd hz hrs hos;go_wp2_with fail;refine(HLh.out _ HUb.out).mono ?_;rintro e w6 ⟨rfl,hU6⟩;unfold sxV;have HU4:=Lib.hid (HU4.out.trans hU6);have HNm:=Lib.hid (HNm.out.under hU6);have HFt:=Lib.hid (HFt.out.under hU6);have HWb:=Lib.hid (HWb.out.under hU6);have HTs:=Lib.hid (HTs.out.ch (D:=fun _=>False) (Ch.of_under hU6));clear hU6;go_wp2_with fail;refine(HFo.out _).mono ?_;rintro e w7 ⟨rfl,hU7⟩;have hUq:=hU7.trans (aA (Under.refl w7) (.cells #[.int .i64 kk,.int .i64 nn,.string rs] 78));have HFm:=Lib.hid (xA w7 #[.int .i64 kk,.int .i64 nn,.string rs] 78);have HU4:=Lib.hid (HU4.out.trans hUq);have HNm:=Lib.hid (HNm.out.under hUq);have HFt:=Lib.hid (HFt.out.under hUq);have HWb:=Lib.hid (HWb.out.under hUq);have HTs:=Lib.hid (HTs.out.ch (D:=fun _=>False) (Ch.of_under hUq));clear hU7 hUq kh kh5 hbl5 hbl HFd HLh HUb HFo;have o0:(w7.alloc (.cells #[.int .i64 kk,.int .i64 nn,.string rs] 78)).cell? ⟨w7.heap.size,0,none⟩=some (.int .i64 kk):=HFm.out.cell 0;have o1:(w7.alloc (.cells #[.int .i64 kk,.int .i64 nn,.string rs] 78)).cell? ⟨w7.heap.size,1,none⟩=some (.int .i64 nn):=HFm.out.cell 1;have o2:(w7.alloc (.cells #[.int .i64 kk,.int .i64 nn,.string rs] 78)).cell? ⟨w7.heap.size,2,none⟩=some (.string rs):=HFm.out.cell 2;have ol:=HFm.out.lt;go_wp2_with fail;generalize w7.alloc (.cells #[.int .i64 kk,.int .i64 nn,.string rs] 78)=w8 at *;generalize w7.heap.size=fo at *;refine(HOd.out _).mono ?_;rintro e wx ⟨rfl,hwx⟩;subst wx;go_wp2_with fail;refine(HSd.out _).mono ?_;rintro e wx ⟨rfl,hwx⟩;subst wx;rcases HSp.out with⟨hsr,hne⟩ | ⟨lst,hsr,hle,hll2,hkd⟩
     · rw [hsr]; have HErr : RowKit.Hid (uE cs ds pp (hd :: l) st = .error (71, pp)) := Lib.hid (by rw [uE, HHf.out]; simp only; rw [if_neg fun h => hne h.1]); clear hsr hne; have g0 : w8.cell? ⟨wb, 0, none⟩ = some (.int .i64 71) := HWb.out.cell 0; have g1 : w8.cell? ⟨wb, 1, none⟩ = some (.int .i64 pp) := HWb.out.cell 1; have gl := HWb.out.lt; have f0 : w8.cell? ⟨w0.heap.size + 1, 0, none⟩ = some (.int .i64 0) := HFt.out.cell 0; have f1 : w8.cell? ⟨w0.heap.size + 1, 1, none⟩ = some (.int .i64 0) := HFt.out.cell 1; have fl := HFt.out.lt; have ff0 := HFt.out.free 0; have ff1 := HFt.out.free 1; have fne : w0.heap.size + 1 ≠ wb := by omega
       go_wp2_with fail; go_region_held3 (fun w' => w'.cell? ⟨wb, 0, none⟩ = some (.int .i64 71) ∧ w'.cell? ⟨wb, 1, none⟩ = some (.int .i64 pp))
         (first
           | exact⟨g0,g1⟩
           | go_keep)
         (fail)
       rename_i hHeld;clear hHeld;go_wp2;have hlow:w0.heap.size≤w0.heap.size+1:=by omega
       have hFE:=(HFt.out.set 0 (.int .i64 71)).set 1 (.int .i64 pp);have hUE:=bA (qA (qA (HU4.out) hlow 0 (.int .i64 71)) hlow 1 (.int .i64 pp));have e0:((w8.setCell ⟨w0.heap.size+1,0,none⟩ (.int .i64 71)).setCell ⟨w0.heap.size+1,1,none⟩ (.int .i64 pp)).cell? ⟨w0.heap.size+1,0,none⟩=some (.int .i64 71):=hFE.cell 0;have e1:((w8.setCell ⟨w0.heap.size+1,0,none⟩ (.int .i64 71)).setCell ⟨w0.heap.size+1,1,none⟩ (.int .i64 pp)).cell? ⟨w0.heap.size+1,1,none⟩=some (.int .i64 pp):=hFE.cell 1;generalize (w8.setCell ⟨w0.heap.size+1,0,none⟩ (.int .i64 71)).setCell ⟨w0.heap.size+1,1,none⟩ (.int .i64 pp)=wE at *;refine bodyPost_ret (v:=.tuple #[.slice none 0 0,.agg #[.int .i64 71,.int .i64 pp]]) ((dC rfl _ _ _).trans ?_) rfl ⟨hUE,by rw[HErr.out]⟩;simp[go_sem,e0,e1]
     · rw [hsr]; have HKd := Lib.hid (And.intro hle (And.intro hll2 hkd)); have HNu := Lib.hid (fun h => HSm.out.2.2.2 (cQA hsr h)); have HBd : RowKit.Hid ((fA l).length ≤ 20000 ∧ st.length + (fA l).length ≤ 50000) := Lib.hid (by
         have h1:=HNn.out.1;have h2:=HNn.out.2.2;have h3:(fA (hd::l)).length=(uA hd).length+(fA l).length:=by rw[fA,List.length_append]
         omega)
       clear hsr hle hkd hll2;simp only;by_cases h26:kk=26
       · subst h26; have hpt : parts = [100, 110, 42] := HSm.out.2.1 rfl; have hge : 3 ≤ l.length + 1 := by
          have h1:=HKd.out.1;rw[hpt]at h1;simp[yA]at h1;omega
         have hpl:parts.length=3:=by rw[hpt];rfl
         have HPl:=Lib.hid hpl;have hUN:Under w8 (w8.alloc (.cells #[.int .i64 26,.int .i64 nn,.int .i64 ((l.length:Int)+1 - 3),.string ⟨#[]⟩] 76)):=aA (Under.refl w8) _;by_cases hm:l.length+1 - 3≤6
         · have hM6 : ¬ (6 : Int) < (l.length : Int) + 1 - 3 := by omega
           have HRs : RowKit.Hid (uE cs ds pp (hd :: l) st = goS cs ds (uB false (yA parts l.length)) l ⟨26, nn, (l.length : Int) + 1 - 3, ⟨#[]⟩⟩ [] st []) := Lib.hid (by
             rw[uE,HHf.out];simp only;rw[if_pos ⟨HKd.out.1,fun h=>by rw[HPl.out];exact hm⟩,if_pos (by first | trivial | simp),HPl.out,show((l.length+1 - 3:Nat):Int)=(l.length:Int)+1 - 3 by omega])
           clear hpt hge hpl hm hUN;go_wp2_with fail;rename_i K hK;have hUN:Under w8 (w8.alloc (.cells #[.int .i64 26,.int .i64 nn,.int .i64 ((l.length:Int)+1 - 3),.string ⟨#[]⟩] 76)):=aA (Under.refl w8) _;have hNb:BoxAt (w8.alloc (.cells #[.int .i64 26,.int .i64 nn,.int .i64 ((l.length:Int)+1 - 3),.string ⟨#[]⟩] 76)) w8.heap.size 76 (eQ ⟨26,nn,(l.length:Int)+1 - 3,⟨#[]⟩⟩):=xA w8 _ _;have hsz:(w8.alloc (.cells #[.int .i64 26,.int .i64 nn,.int .i64 ((l.length:Int)+1 - 3),.string ⟨#[]⟩] 76)).heap.size=w8.heap.size+1:=by rw[World.size_alloc]
           obtain⟨wN,hwN⟩:∃ z,z=w8.alloc (.cells #[.int .i64 26,.int .i64 nn,.int .i64 ((l.length:Int)+1 - 3),.string ⟨#[]⟩] 76):=⟨_,rfl⟩;rw[← hwN]at hUN hNb hsz ⊢;clear hwN;rw[← hsz];have HOk:=Lib.hid (dDA (c2:=c2) (x:=⟨26,nn,(l.length:Int)+1 - 3,⟨#[]⟩⟩) (R:=goS cs ds (uB false (yA parts l.length)) l ⟨26,nn,(l.length:Int)+1 - 3,⟨#[]⟩⟩ [] st []) HU4.out hUN hNb HNm.out HFt.out HFm.out HTs.out HTx.out hst'.2 HBd.out.1 HBd.out.2 hcl hdl HKd.out.2.1 (fun h=>by first | exact HNu.out h | exact .inr rfl | (have:=HNu.out h;simp at this)));refine wp_mono (tZ _ HOk.out HIh.out _ _ ⟨[],⟨26,nn,(l.length:Int)+1 - 3,⟨#[]⟩⟩,[],_,_,_,fB (F:=uD w0.heap.size (w0.heap.size+1) fo w8.heap.size bv (.slice (some ⟨wN.heap.size,0,none⟩) 0 0) (.slice (some ⟨wN.heap.size+1,0,none⟩) 0 0) ⟨lst.toArray⟩ (some ⟨g,0,none⟩) (l.length+1) c2 0) (by rfl),rCA hNb rfl (by show goS cs ds (uB false (yA parts l.length)) l ⟨26,nn,(l.length:Int)+1 - 3,⟨#[]⟩⟩ [] st []=_;rw[HKd.out.2.2])⟩) ?_;rintro ex a' wr hE;rcases hE with⟨rfl,nms,x,t,ov,nv,J,rfl,hS⟩ | ⟨rfl,c,p,⟨J,rfl⟩,hR,hU,hB⟩
           · simp only[Exit.inBlock,if_pos,Exit.then];refine hK _ _ ?_;refine wp_mono (oJA _ HOk.out hS J) ?_;rintro ex a' w' ⟨rfl,v,⟨J',rfl⟩,hT,hU,hB⟩;exact jU hB ⟨hU,by rw[HRs.out,show goS cs ds (uB false (yA parts l.length)) l ⟨26,nn,(l.length:Int)+1 - 3,⟨#[]⟩⟩ [] st [] = .ok (t++[x]) from hNA HOk.out hS];exact⟨_,rfl,hT⟩⟩
           · simp only[Exit.inBlock,Exit.then];exact jU hB ⟨hU,by rw[HRs.out,show goS cs ds (uB false (yA parts l.length)) l ⟨26,nn,(l.length:Int)+1 - 3,⟨#[]⟩⟩ [] st [] = .error (c,p) from hR]⟩
         · have hM6 : (6 : Int) < (l.length : Int) + 1 - 3 := by omega
           have HErr:RowKit.Hid (uE cs ds pp (hd::l) st = .error (71,pp)):=Lib.hid (by rw[uE,HHf.out];simp only;rw[if_neg fun h=>by have:=h.2 (by first | trivial | simp);rw[HPl.out]at this;omega]);have HU4:=Lib.hid (HU4.out.trans hUN);have HNm:=Lib.hid (HNm.out.under hUN);have HFt:=Lib.hid (HFt.out.under hUN);have HWb:=Lib.hid (HWb.out.under hUN);have HTs:=Lib.hid (HTs.out.ch (D:=fun _=>False) (Ch.of_under hUN));clear hpt hge hpl hm hUN;go_wp2_with fail;generalize w8.alloc (.cells #[.int .i64 26,.int .i64 nn,.int .i64 ((l.length:Int)+1 - 3),.string ⟨#[]⟩] 76)=wN at *;have g0:wN.cell? ⟨wb,0,none⟩=some (.int .i64 71):=HWb.out.cell 0;have g1:wN.cell? ⟨wb,1,none⟩=some (.int .i64 pp):=HWb.out.cell 1;have gl:=HWb.out.lt;have f0:wN.cell? ⟨w0.heap.size+1,0,none⟩=some (.int .i64 0):=HFt.out.cell 0;have f1:wN.cell? ⟨w0.heap.size+1,1,none⟩=some (.int .i64 0):=HFt.out.cell 1;have fl:=HFt.out.lt;have ff0:=HFt.out.free 0;have ff1:=HFt.out.free 1;have fne:w0.heap.size+1≠wb:=by omega
           go_wp2_with fail; go_region_held3 (fun w' => w'.cell? ⟨wb, 0, none⟩ = some (.int .i64 71) ∧ w'.cell? ⟨wb, 1, none⟩ = some (.int .i64 pp))
             (first
               | exact⟨g0,g1⟩
               | go_keep)
             (fail)
           rename_i hHeld;clear hHeld;go_wp2;have hlow:w0.heap.size≤w0.heap.size+1:=by omega
           have hFE:=(HFt.out.set 0 (.int .i64 71)).set 1 (.int .i64 pp);have hUE:=bA (qA (qA (HU4.out) hlow 0 (.int .i64 71)) hlow 1 (.int .i64 pp));have e0:((wN.setCell ⟨w0.heap.size+1,0,none⟩ (.int .i64 71)).setCell ⟨w0.heap.size+1,1,none⟩ (.int .i64 pp)).cell? ⟨w0.heap.size+1,0,none⟩=some (.int .i64 71):=hFE.cell 0;have e1:((wN.setCell ⟨w0.heap.size+1,0,none⟩ (.int .i64 71)).setCell ⟨w0.heap.size+1,1,none⟩ (.int .i64 pp)).cell? ⟨w0.heap.size+1,1,none⟩=some (.int .i64 pp):=hFE.cell 1;generalize (wN.setCell ⟨w0.heap.size+1,0,none⟩ (.int .i64 71)).setCell ⟨w0.heap.size+1,1,none⟩ (.int .i64 pp)=wE at *;refine bodyPost_ret (v:=.tuple #[.slice none 0 0,.agg #[.int .i64 71,.int .i64 pp]]) ((dC rfl _ _ _).trans ?_) rfl ⟨hUE,by rw[HErr.out]⟩;simp[go_sem,e0,e1]
       by_cases h27:kk=27
       · subst h27; have hpt : parts = [100, 118, 46, 42, 46] := HSm.out.2.2.1 rfl; have hge : 5 ≤ l.length + 1 := by
          have h1:=HKd.out.1;rw[hpt]at h1;simp[yA]at h1;omega
         have hpl:parts.length=5:=by rw[hpt];rfl
         have HPl:=Lib.hid hpl;have hUN:Under w8 (w8.alloc (.cells #[.int .i64 27,.int .i64 nn,.int .i64 ((l.length:Int)+1 - 5),.string ⟨#[]⟩] 76)):=aA (Under.refl w8) _;by_cases hm:l.length+1 - 5≤6
         · have hM6 : ¬ (6 : Int) < (l.length : Int) + 1 - 5 := by omega
           have HRs : RowKit.Hid (uE cs ds pp (hd :: l) st = goS cs ds (uB false (yA parts l.length)) l ⟨27, nn, (l.length : Int) + 1 - 5, ⟨#[]⟩⟩ [] st []) := Lib.hid (by
             rw[uE,HHf.out];simp only;rw[if_pos ⟨HKd.out.1,fun h=>by rw[HPl.out];exact hm⟩,if_pos (by first | trivial | simp),HPl.out,show((l.length+1 - 5:Nat):Int)=(l.length:Int)+1 - 5 by omega])
           clear hpt hge hpl hm hUN;go_wp2_with fail;rename_i K hK;have hUN:Under w8 (w8.alloc (.cells #[.int .i64 27,.int .i64 nn,.int .i64 ((l.length:Int)+1 - 5),.string ⟨#[]⟩] 76)):=aA (Under.refl w8) _;have hNb:BoxAt (w8.alloc (.cells #[.int .i64 27,.int .i64 nn,.int .i64 ((l.length:Int)+1 - 5),.string ⟨#[]⟩] 76)) w8.heap.size 76 (eQ ⟨27,nn,(l.length:Int)+1 - 5,⟨#[]⟩⟩):=xA w8 _ _;have hsz:(w8.alloc (.cells #[.int .i64 27,.int .i64 nn,.int .i64 ((l.length:Int)+1 - 5),.string ⟨#[]⟩] 76)).heap.size=w8.heap.size+1:=by rw[World.size_alloc]
           obtain⟨wN,hwN⟩:∃ z,z=w8.alloc (.cells #[.int .i64 27,.int .i64 nn,.int .i64 ((l.length:Int)+1 - 5),.string ⟨#[]⟩] 76):=⟨_,rfl⟩;rw[← hwN]at hUN hNb hsz ⊢;clear hwN;rw[← hsz];have HOk:=Lib.hid (dDA (c2:=c2) (x:=⟨27,nn,(l.length:Int)+1 - 5,⟨#[]⟩⟩) (R:=goS cs ds (uB false (yA parts l.length)) l ⟨27,nn,(l.length:Int)+1 - 5,⟨#[]⟩⟩ [] st []) HU4.out hUN hNb HNm.out HFt.out HFm.out HTs.out HTx.out hst'.2 HBd.out.1 HBd.out.2 hcl hdl HKd.out.2.1 (fun h=>by first | exact HNu.out h | exact .inr rfl | (have:=HNu.out h;simp at this)));refine wp_mono (tZ _ HOk.out HIh.out _ _ ⟨[],⟨27,nn,(l.length:Int)+1 - 5,⟨#[]⟩⟩,[],_,_,_,fB (F:=uD w0.heap.size (w0.heap.size+1) fo w8.heap.size bv (.slice (some ⟨wN.heap.size,0,none⟩) 0 0) (.slice (some ⟨wN.heap.size+1,0,none⟩) 0 0) ⟨lst.toArray⟩ (some ⟨g,0,none⟩) (l.length+1) c2 0) (by rfl),rCA hNb rfl (by show goS cs ds (uB false (yA parts l.length)) l ⟨27,nn,(l.length:Int)+1 - 5,⟨#[]⟩⟩ [] st []=_;rw[HKd.out.2.2])⟩) ?_;rintro ex a' wr hE;rcases hE with⟨rfl,nms,x,t,ov,nv,J,rfl,hS⟩ | ⟨rfl,c,p,⟨J,rfl⟩,hR,hU,hB⟩
           · simp only[Exit.inBlock,if_pos,Exit.then];refine hK _ _ ?_;refine wp_mono (oJA _ HOk.out hS J) ?_;rintro ex a' w' ⟨rfl,v,⟨J',rfl⟩,hT,hU,hB⟩;exact jU hB ⟨hU,by rw[HRs.out,show goS cs ds (uB false (yA parts l.length)) l ⟨27,nn,(l.length:Int)+1 - 5,⟨#[]⟩⟩ [] st [] = .ok (t++[x]) from hNA HOk.out hS];exact⟨_,rfl,hT⟩⟩
           · simp only[Exit.inBlock,Exit.then];exact jU hB ⟨hU,by rw[HRs.out,show goS cs ds (uB false (yA parts l.length)) l ⟨27,nn,(l.length:Int)+1 - 5,⟨#[]⟩⟩ [] st [] = .error (c,p) from hR]⟩
         · have hM6 : (6 : Int) < (l.length : Int) + 1 - 5 := by omega
           have HErr:RowKit.Hid (uE cs ds pp (hd::l) st = .error (71,pp)):=Lib.hid (by rw[uE,HHf.out];simp only;rw[if_neg fun h=>by have:=h.2 (by first | trivial | simp);rw[HPl.out]at this;omega]);have HU4:=Lib.hid (HU4.out.trans hUN);have HNm:=Lib.hid (HNm.out.under hUN);have HFt:=Lib.hid (HFt.out.under hUN);have HWb:=Lib.hid (HWb.out.under hUN);have HTs:=Lib.hid (HTs.out.ch (D:=fun _=>False) (Ch.of_under hUN));clear hpt hge hpl hm hUN;go_wp2_with fail;generalize w8.alloc (.cells #[.int .i64 27,.int .i64 nn,.int .i64 ((l.length:Int)+1 - 5),.string ⟨#[]⟩] 76)=wN at *;have g0:wN.cell? ⟨wb,0,none⟩=some (.int .i64 71):=HWb.out.cell 0;have g1:wN.cell? ⟨wb,1,none⟩=some (.int .i64 pp):=HWb.out.cell 1;have gl:=HWb.out.lt;have f0:wN.cell? ⟨w0.heap.size+1,0,none⟩=some (.int .i64 0):=HFt.out.cell 0;have f1:wN.cell? ⟨w0.heap.size+1,1,none⟩=some (.int .i64 0):=HFt.out.cell 1;have fl:=HFt.out.lt;have ff0:=HFt.out.free 0;have ff1:=HFt.out.free 1;have fne:w0.heap.size+1≠wb:=by omega
           go_wp2_with fail; go_region_held3 (fun w' => w'.cell? ⟨wb, 0, none⟩ = some (.int .i64 71) ∧ w'.cell? ⟨wb, 1, none⟩ = some (.int .i64 pp))
             (first
               | exact⟨g0,g1⟩
               | go_keep)
             (fail)
           rename_i hHeld;clear hHeld;go_wp2;have hlow:w0.heap.size≤w0.heap.size+1:=by omega
           have hFE:=(HFt.out.set 0 (.int .i64 71)).set 1 (.int .i64 pp);have hUE:=bA (qA (qA (HU4.out) hlow 0 (.int .i64 71)) hlow 1 (.int .i64 pp));have e0:((wN.setCell ⟨w0.heap.size+1,0,none⟩ (.int .i64 71)).setCell ⟨w0.heap.size+1,1,none⟩ (.int .i64 pp)).cell? ⟨w0.heap.size+1,0,none⟩=some (.int .i64 71):=hFE.cell 0;have e1:((wN.setCell ⟨w0.heap.size+1,0,none⟩ (.int .i64 71)).setCell ⟨w0.heap.size+1,1,none⟩ (.int .i64 pp)).cell? ⟨w0.heap.size+1,1,none⟩=some (.int .i64 pp):=hFE.cell 1;generalize (wN.setCell ⟨w0.heap.size+1,0,none⟩ (.int .i64 71)).setCell ⟨w0.heap.size+1,1,none⟩ (.int .i64 pp)=wE at *;refine bodyPost_ret (v:=.tuple #[.slice none 0 0,.agg #[.int .i64 71,.int .i64 pp]]) ((dC rfl _ _ _).trans ?_) rfl ⟨hUE,by rw[HErr.out]⟩;simp[go_sem,e0,e1]
       have k26:(kk==26)=false:=by simpa using h26
       have k27:(kk==27)=false:=by simpa using h27
       have HRs:RowKit.Hid (uE cs ds pp (hd::l) st=goS cs ds (uB false (yA parts l.length)) l ⟨kk,nn,0,⟨#[]⟩⟩ [] st []):=Lib.hid (by rw[uE,HHf.out];simp only;rw[if_pos ⟨HKd.out.1,fun h=>by omega⟩,if_neg (by omega)]);go_wp2_with fail;rename_i K hK;have hUN:Under w8 (w8.alloc (.cells #[.int .i64 kk,.int .i64 nn,.int .i64 0,.string ⟨#[]⟩] 76)):=aA (Under.refl w8) _;have hNb:BoxAt (w8.alloc (.cells #[.int .i64 kk,.int .i64 nn,.int .i64 0,.string ⟨#[]⟩] 76)) w8.heap.size 76 (eQ ⟨kk,nn,0,⟨#[]⟩⟩):=xA w8 _ _;have hsz:(w8.alloc (.cells #[.int .i64 kk,.int .i64 nn,.int .i64 0,.string ⟨#[]⟩] 76)).heap.size=w8.heap.size+1:=by rw[World.size_alloc]
       obtain⟨wN,hwN⟩:∃ z,z=w8.alloc (.cells #[.int .i64 kk,.int .i64 nn,.int .i64 0,.string ⟨#[]⟩] 76):=⟨_,rfl⟩;rw[← hwN]at hUN hNb hsz ⊢;clear hwN;rw[← hsz];have HOk:=Lib.hid (dDA (c2:=c2) (x:=⟨kk,nn,0,⟨#[]⟩⟩) (R:=goS cs ds (uB false (yA parts l.length)) l ⟨kk,nn,0,⟨#[]⟩⟩ [] st []) HU4.out hUN hNb HNm.out HFt.out HFm.out HTs.out HTx.out hst'.2 HBd.out.1 HBd.out.2 hcl hdl HKd.out.2.1 (fun h=>by first | exact HNu.out h | exact .inr rfl | (have:=HNu.out h;simp at this)));refine wp_mono (tZ _ HOk.out HIh.out _ _ ⟨[],⟨kk,nn,0,⟨#[]⟩⟩,[],_,_,_,fB (F:=uD w0.heap.size (w0.heap.size+1) fo w8.heap.size bv (.slice (some ⟨wN.heap.size,0,none⟩) 0 0) (.slice (some ⟨wN.heap.size+1,0,none⟩) 0 0) ⟨lst.toArray⟩ (some ⟨g,0,none⟩) (l.length+1) c2 0) (by rfl),rCA hNb rfl (by show goS cs ds (uB false (yA parts l.length)) l ⟨kk,nn,0,⟨#[]⟩⟩ [] st []=_;rw[HKd.out.2.2])⟩) ?_;rintro ex a' wr hE;rcases hE with⟨rfl,nms,x,t,ov,nv,J,rfl,hS⟩ | ⟨rfl,c,p,⟨J,rfl⟩,hR,hU,hB⟩
       · simp only[Exit.inBlock,if_pos,Exit.then];refine hK _ _ ?_;refine wp_mono (oJA _ HOk.out hS J) ?_;rintro ex a' w' ⟨rfl,v,⟨J',rfl⟩,hT,hU,hB⟩;exact jU hB ⟨hU,by rw[HRs.out,show goS cs ds (uB false (yA parts l.length)) l ⟨kk,nn,0,⟨#[]⟩⟩ [] st [] = .ok (t++[x]) from hNA HOk.out hS];exact⟨_,rfl,hT⟩⟩
       · simp only[Exit.inBlock,Exit.then];exact jU hB ⟨hU,by rw[HRs.out,show goS cs ds (uB false (yA parts l.length)) l ⟨kk,nn,0,⟨#[]⟩⟩ [] st [] = .error (c,p) from hR]⟩
end Go.Proofs.YtlnlpdephijcoaaGreatDoor
