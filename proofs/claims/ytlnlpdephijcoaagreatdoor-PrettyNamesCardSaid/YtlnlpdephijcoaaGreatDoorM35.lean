/- Part 35 of what the proof rests on. -/
import Derived.Laws.ResultCell
import Derived.Deep.QuietTactic
import Derived.Deep.RegionHeld3
import Derived.Deep.AppendLies
import Derived.Test.YtlnlpdephijcoaaGreatDoorM01
import Derived.Test.YtlnlpdephijcoaaGreatDoorM02
import Derived.Test.YtlnlpdephijcoaaGreatDoorM13
import Derived.Test.YtlnlpdephijcoaaGreatDoorM16
import Derived.Test.YtlnlpdephijcoaaGreatDoorM33
import Derived.Test.YtlnlpdephijcoaaGreatDoorM34
set_option linter.unusedSimpArgs false
set_option linter.unusedVariables false
set_option maxRecDepth 100000
set_option maxHeartbeats 16000000
namespace Go.Proofs.YtlnlpdephijcoaaGreatDoor
open Go.Lx Go.RowKit
attribute [local go_sem] Oper.semAt_some
theorem qWA(p:Option Addr)(n c:Nat)(w:World):Calls Tryz.prog 107 #[.slice p n c] w fun e w'=>e = .returned (.func (.func 127) #[] #[.pointer (some ⟨w.heap.size,0,none⟩)])∧w'=w.alloc (.cells #[.slice p n c] 30):=by
 go_enter Tryz.func107,Tryz.ntmps107;go_wp2;go_ret;exact⟨rfl,rfl⟩
def Told(f:Nat)(g:Int→Int→Int):Prop:=(∀ args w,(callFunc f args).run Tryz.prog w = .ok (.enter f args) w)∧∀(nb:Nat) (s v:Int) (w:World),-1000000≤s→s≤1000000→0≤v→v≤99→BoxAt w nb 3 #[.int .i64 s] →
 Calls Tryz.prog f #[.int .i64 v,.pointer (some ⟨nb,0,none⟩)] w fun e w'=>(∃ v,e = .returned v)∧w'=w.setCell ⟨nb,0,none⟩ (.int .i64 (g s v))
def sM(t:List Nd)(g:Int→Int→Int)(s:Int)(x:Nat×Nat):Int :=
 match t[x.1]? with
 | some y=>if y.k=0∧(x.2:Int)≤y.n then g s (y.n - x.2) else s
 | none=>s
def tell(t:List Nd)(g:Int→Int→Int)(s:Int)(l:List (Nat×Nat)):Int:=l.foldl (sM t g) s
section
variable {W0 w0 : World} {t : List Nd} {p : Option Addr} {c nb f : Nat} {g : Int → Int → Int} {s0 : Int}
theorem d4A (hT : Told f g) (hcap : t.length ≤ c) (hn : t.length ≤ maxLen) (hs : ∀ x ∈ t, x.s.size ≤ maxLen) (hp : RowArg W0 p (zB t)) (hS : ShapesAt 0 W0) (hU : Under W0 w0) (hB : BoxAt w0 nb 3 #[.int .i64 s0]) (hnb : W0.heap.size ≤ nb) (hc : vB t = 0)
    (hbd:∀ pre,pre <+: tH t→-1000000≤tell t g s0 pre∧tell t g s0 pre≤1000000) :
    Calls Tryz.prog 78 #[.slice p t.length c,.func (.func f) #[] #[.pointer (some ⟨nb,0,none⟩)]] w0 fun e w=>e = .returned (.int .i64 0)∧Turned (some nb) w0 w∧BoxAt w nb 3 #[.int .i64 (tell t g s0 (tH t))]:=by
  obtain⟨hlen,hn4⟩:=jXA hc;have hC:=fun(w:World) (h:Under W0 w)=>bS (c:=c) t hn hs (hp.under h) (hS.under h)
  rw[hc]at hC;have hBt:=(yA w0 #[.slice p t.length c] 30).alloc (.cells #[.func (.func f) #[] #[.pointer (some ⟨nb,0,none⟩)]] 142);have hBf:=yA (w0.alloc (.cells #[.slice p t.length c] 30)) #[.func (.func f) #[] #[.pointer (some ⟨nb,0,none⟩)]] 142;have hs1:(w0.alloc (.cells #[.slice p t.length c] 30)).heap.size=w0.heap.size+1:=by simp
  rw[hs1]at hBf;have hU2:=aA (aA (Under.refl w0) (.cells #[.slice p t.length c] 30)) (.cells #[.func (.func f) #[] #[.pointer (some ⟨nb,0,none⟩)]] 142);have HC:=Lib.hid (hC _ (hU.trans hU2));refine(callsIn_wide (n:=10)).1 ?_;refine callsIn_of_wp_marks Tryz.func78 rfl trivial ?_ rfl;simp only[Tryz.ntmps78,List.size_toArray,List.length_cons,List.length_nil,Nat.reduceAdd,Nat.reduceSub,Array.replicate_succ,Array.replicate_zero,List.push_toArray,List.append_toArray,List.nil_append,List.cons_append];have HBT:=Lib.hid hBt;have HBF:=Lib.hid hBf;have HU2:=Lib.hid hU2;clear hBt hBf hU2 hs1 hC
  gi_wp2
  refine⟨trivial,?_⟩;refine(callsIn_wide.2 HC.out).mono ?_;rintro e w1 ⟨rfl,hU1⟩;have hBt1:=HBT.out.under hU1;have hBf1:=HBF.out.under hU1;have et:=hBt1.cell 0;have elt:=hBt1.lt;have HBT1:=Lib.hid hBt1;have HBF1:=Lib.hid hBf1;have HU1:=Lib.hid hU1;have HN:=Lib.hid (qWA p t.length c w1);clear hBt1 hBf1 hU1
  gi_wp2
  refine⟨trivial,?_⟩;refine(callsIn_wide.2 HN.out).mono ?_;rintro e w2 ⟨rfl,rfl⟩;have hB2:=yA w1 #[.slice p t.length c] 30;have HBT2:=Lib.hid (HBT1.out.alloc (.cells #[.slice p t.length c] 30));have HBF2:=Lib.hid (HBF1.out.alloc (.cells #[.slice p t.length c] 30));have hUw:=(HU2.out.trans HU1.out).trans (aA (Under.refl w1) (.cells #[.slice p t.length c] 30));have HUw:=Lib.hid hUw;have HB2:=Lib.hid hB2;have HNb:=Lib.hid (hB.under hUw);have hsz:w1.heap.size < (w1.alloc (.cells #[.slice p t.length c] 30)).heap.size:=by simp
  have hsz1:=HU1.out.size;rw[World.size_alloc,World.size_alloc]at hsz1;have hnlt:=hB.lt;clear hUw hB2 et elt HBT1 HBF1
  gi_wp2
  refine vW rfl (by decide) (gf := 127) (lb := #[.pointer (some ⟨w1.heap.size, 0, none⟩)]) rfl trivial (enters_of Tryz.func127 (by kernel_rfl) rfl)
    (wTA (n := 9) (W0 := W0) (w := w1.alloc (.cells #[.slice p t.length c] 30)) hn4 hcap hs hp hS (hU.trans HUw.out) HB2.out hlen) (Under.refl _) (fun _ => rfl) (fun k hk => by
      rcases hk with hk | rfl
      · exact Nat.lt_of_lt_of_le hk (hU.trans HUw.out).size
      · exact hsz)
    (fun b pre A=>Turned (some nb) (w1.alloc (.cells #[.slice p t.length c] 30)) A∧BoxAt A nb 3 #[.int .i64 (tell t g s0 pre)])
    (fun _ _ _=>False)
    ?hI ?hIo (fun _ _ _ _ _ _ h _ _ _=>h) ⟨Turned.refl _ _,HNb.out⟩ ?a1 ?assign ?body ?done (fun _ _ _ _ _ h _=>h.elim)
  case hI =>
    rintro b b' pre A A' ⟨h1,h2⟩ hs hsz2 hb;have hne:some nb≠b:=fun e=>by have:=hb nb e.symm;have:=HUw.out.size;simp at *;omega
    exact⟨⟨hs.os.trans h1.os,hs.output.trans h1.output,Nat.le_trans h1.size hs.size,fun k hk hr=>(hs.block k (Nat.lt_of_lt_of_le hk h1.size) fun e=>by have:=hb k e.symm;omega).trans (h1.block k hk hr)⟩,(hs.block nb h2.lt hne).trans h2⟩
  case hIo =>
    rintro b pre A l o o' ⟨h1,h2⟩ hl ho hc;have hne:l≠nb:=fun e=>by subst e;have:=h2;unfold BoxAt at this;rw[this]at ho;cases ho;cases hc
    exact⟨⟨h1.os,h1.output,by simpa using h1.size,fun k hk hr=>(World.putObj_heap_other (by omega)).trans (h1.block k hk hr)⟩,(World.putObj_heap_other (fun e=>hne e.symm)).trans h2⟩
  case assign =>
    intro l x W K hK
    gi_wp2
    exact hK
  case body =>
    rintro l b pre ⟨at_,under⟩ A hsz3 hb ⟨hT1,hBn⟩ hpre;have hUA:=hT1.under (hU.trans HUw.out) hnb;have hmem:(at_,under)∈tH t:=hpre.subset (by simp);have hat:=eRA t t.length [0] _ hmem;simp only at hat;have hxk:t[at_]? = some t[at_]:=List.getElem?_eq_getElem hat;have hright:=nV hc _ (List.getElem_mem hat);obtain⟨bb,off,hpe,hbb,c0,c1,c2,c3⟩:=hp.node hxk;rw[← jA hUA hbb]at c0 c1 c2 c3;have hbbA:=Nat.lt_of_lt_of_le hbb hUA.size;have hbd1:=hbd pre ⟨_,by have:=hpre.choose_spec;rw[List.append_assoc]at this;exact this⟩;have htell:tell t g s0 (pre++[(at_,under)])=sM t g (tell t g s0 pre) (at_,under):=by unfold tell;rw[List.foldl_append];rfl
    have hone:sM t g (tell t g s0 pre) (at_,under)=if t[at_].k=0∧(under:Int)≤t[at_].n then g (tell t g s0 pre) (t[at_].n - under) else tell t g s0 pre:=by
     unfold sM;simp only[hxk]
    rw[hone]at htell;generalize hx:t[at_]=x at *;have hBT3:=HBT2.out.turned hT1 (by simp;omega);have hBF3:=HBF2.out.turned hT1 (by simp;omega);have et:=hBT3.cell 0;have ef:=hBF3.cell 0;have elt:=hBT3.lt;have elf:=hBF3.lt;have enb:=hBn.lt;have HT1:=Lib.hid hT1;have HBn:=Lib.hid hBn;have HTl:=Lib.hid htell;have HP:=Lib.hid hpe;have hat':(at_:Int) < t.length:=by omega
    have hat0:(0:Int)≤at_:=Int.natCast_nonneg _;have hn4':(t.length:Int)≤4000:=by omega
    subst hpe;have HBN2:=Lib.hid (hBn.alloc (.cells #[.int .i64 x.k,.int .i64 x.n,.int .i64 x.m,.string x.s] 76));clear hBT3 hBF3 hT1 hBn htell hone hxk hx hpre hmem;by_cases h0:x.k=0
    · obtain ⟨hv0, hv1⟩ := xJ hright h0; have h0' : (x.k == 0) = true := by simpa using h0
      by_cases hle:(under:Int)≤x.n
      · have hu0 : (0 : Int) ≤ under := Int.natCast_nonneg _; have hen := hT.1; have HTo := Lib.hid (hT.2 nb (tell t g s0 pre) (x.n - under) (A.alloc (.cells #[.int .i64 x.k, .int .i64 x.n, .int .i64 x.m, .string x.s] 76)) hbd1.1 hbd1.2 (by omega) (by omega) HBN2.out); have hif : (if x.k = 0 ∧ (under : Int) ≤ x.n then g (tell t g s0 pre) (x.n - under) else tell t g s0 pre) = g (tell t g s0 pre) (x.n - under) := if_pos ⟨h0, hle⟩; have HIf := Lib.hid hif; clear hif h0 hbd1
        gi_wp2
        refine⟨trivial,?_⟩;refine(CallsIn.inRound l (callsIn_wide.2 HTo.out)).mono ?_;rintro e A2 ⟨⟨v,rfl⟩,hA2⟩;have hk2:KeepsOthers A A2:=by rw[hA2];exact(KeepsOthers.alloc _ _).trans (KeepsOthers.setCell _ _ _)
        have ht2:Turned (some nb) A A2:=by rw[hA2];exact(Turned.of_under (aA (Under.refl _) _)).trans (Turned.set _ _ _ _)
        have hb2:BoxAt A2 nb 3 #[.int .i64 (g (tell t g s0 pre) (x.n - under))]:=by rw[hA2];exact HBN2.out.set _ _
        have HK2:=Lib.hid hk2;have HT2:=Lib.hid ht2;have HB2':=Lib.hid hb2;clear hA2 hk2 ht2 hb2
        gi_wp2
        refine⟨HK2.out.from _,⟨HT2.out.os,HT2.out.output,HT2.out.size,fun k hk hr=>HT2.out.block k hk fun e=>?_⟩,HT1.out.trans HT2.out,?_⟩
        · cases e; rcases hr with (hr | hr) | hr
          · omega
          · have:=HU1.out.size;simp at *;omega
          · have:=hb nb hr;simp at *;omega
        · rw[HTl.out,HIf.out];exact HB2'.out
      · have hif : (if x.k = 0 ∧ (under : Int) ≤ x.n then g (tell t g s0 pre) (x.n - under) else tell t g s0 pre) = tell t g s0 pre := if_neg fun h => hle h.2
        have HIf:=Lib.hid hif;have hlt:x.n < (under:Int):=by omega
        clear hif h0 hle hbd1
        gi_wp2
        refine⟨(KeepsOthers.alloc _ _).from _,Kept.of_under (aA (Under.refl _) _),HT1.out.trans (Turned.of_under (aA (Under.refl _) _)),?_⟩;rw[HTl.out,HIf.out];exact HBN2.out
    · have h0' : (x.k == 0) = false := by simpa using h0
      have hif:(if x.k=0∧(under:Int)≤x.n then g (tell t g s0 pre) (x.n - under) else tell t g s0 pre)=tell t g s0 pre:=if_neg fun h=>h0 h.1
      have HIf:=Lib.hid hif;clear hif h0 hbd1
      gi_wp2
      refine⟨(KeepsOthers.alloc _ _).from _,Kept.of_under (aA (Under.refl _) _),HT1.out.trans (Turned.of_under (aA (Under.refl _) _)),?_⟩;rw[HTl.out,HIf.out];exact HBN2.out
  case done =>
    rintro D b W hD ⟨hT1,hBn⟩ hK
    gi_wp2
    refine⟨by simp,.inl ⟨_,_,rfl,run_takeDeferred hK,?_⟩⟩;refine⟨_,results_tmp rfl _ _ _,rfl,?_,?_⟩
    · have h0:=(Turned.of_under (r:=some nb) HUw.out).trans hT1;exact⟨h0.os,h0.output,by simpa using h0.size,fun k hk hr=>(World.putObj_heap_other (by have:=HUw.out.size;omega)).trans (h0.block k hk hr)⟩
    · exact(World.putObj_heap_other (by have:=HUw.out.size;omega)).trans hBn
end
def jP(s v:Int):Int:=max s (v+1)
def wVA(t:List Nd):Int:=tell t jP 0 (tH t)
theorem o8A{t:List Nd}(hr:∀ x∈t,nA x=true):∀(l:List (Nat×Nat)) (s:Int),0≤s→s≤100→0≤tell t jP s l∧tell t jP s l≤100:=by
 intro l
 induction l with
 | nil=>intro s h0 h1;exact⟨h0,h1⟩
 | cons x l ih =>
   intro s h0 h1;have:0≤sM t jP s x∧sM t jP s x≤100:=by
    unfold sM
    split
    · rename_i y hy
      split
      · rename_i h;have:=xJ (hr y (List.mem_of_getElem? hy)) h.1;unfold jP;omega
      · exact⟨h0,h1⟩
    · exact⟨h0,h1⟩
   exact ih _ this.1 this.2
theorem jUA:Told 79 jP:=by
 refine⟨enters_of Tryz.func79 (by kernel_rfl) rfl,?_⟩;intro nb s v w h0 h1 h2 h3 hB;have e0:=hB.cell 0;have f0:=hB.free 0;have hl:=hB.lt;unfold jP;clear hB;by_cases hm:v+1≤s
 · rw [show max s (v + 1) = s by omega]; go_enter Tryz.func79, Tryz.ntmps79; go_wp2
   all_goals
    go_end0
    first
     | exact⟨⟨_,rfl⟩,rfl⟩
     | (refine⟨⟨_,rfl⟩,?_⟩;congr 2;omega)
 · rw [show max s (v + 1) = v + 1 by omega]; go_enter Tryz.func79, Tryz.ntmps79; go_wp2
   all_goals
    go_end0
    first
     | exact⟨⟨_,rfl⟩,rfl⟩
     | (refine⟨⟨_,rfl⟩,?_⟩;congr 2;omega)
def iDA(w0:World)(t:List Nd)(e:Ending)(w:World):Prop:=e = .returned (.tuple #[.int .i64 (if vB t=0 then wVA t else 0),.int .i64 (vB t)])∧Under w0 w
theorem hQA{a a' b b':Int}(h:a=a')(h2:b=b'):Ending.returned (.tuple #[.int .i64 a,.int .i64 b]) = .returned (.tuple #[.int .i64 a',.int .i64 b']):=by rw[h,h2]
section
variable {w0 : World} {t : List Nd} {p : Option Addr} {c : Nat}
theorem a3A{W0:World}(f nb:Nat)(hn:t.length≤maxLen)(hs:∀ x∈t,x.s.size≤maxLen)(hp:RowArg W0 p (zB t))(hS:ShapesAt 0 W0)(hU:Under W0 w0)(hc:vB t≠0) :
 Calls Tryz.prog 78 #[.slice p t.length c,.func (.func f) #[] #[.pointer (some ⟨nb,0,none⟩)]] w0 fun e w=>e = .returned (.int .i64 (vB t))∧Under w0 w:=by
 have hU2:=aA (aA (Under.refl w0) (.cells #[.slice p t.length c] 30)) (.cells #[.func (.func f) #[] #[.pointer (some ⟨nb,0,none⟩)]] 142);have HC:=Lib.hid (bS (c:=c) t hn hs (hp.under (hU.trans hU2)) (hS.under (hU.trans hU2)));have HU2:=Lib.hid hU2;have hc':(vB t != 0)=true:=by simpa using hc
 clear hp hS hs hU2 hU hc;generalize vB t=ce at *;go_enter Tryz.func78,Tryz.ntmps78;go_wp2_with fail;refine HC.out.mono ?_;rintro e w1 ⟨rfl,hU1⟩;have HU1:=Lib.hid hU1;clear hU1;go_wp2;go_ret;exact⟨rfl,HU2.out.trans HU1.out⟩
theorem oDA(hcap:t.length≤c)(hn:t.length≤maxLen)(hs:∀ x∈t,x.s.size≤maxLen)(hp:RowArg w0 p (zB t))(hS:ShapesAt 0 w0) :
 Calls Tryz.prog 41 #[.slice p t.length c] w0 (iDA w0 t):=by
 have hB:=yA w0 #[.int .i64 0] 3;have hU:=aA (Under.refl w0) (.cells #[.int .i64 0] 3);by_cases hc:vB t=0
 · have HE:=Lib.hid (d4A (W0:=w0) (c:=c) (s0:=0) jUA hcap hn hs hp hS hU hB (Nat.le_refl _) hc (fun pre _=>by have:=o8A (nV hc) pre 0 (by omega) (by omega);omega));have HF:=Lib.hid (show(if vB t=0 then wVA t else 0)=tell t jP 0 (tH t) from if_pos hc);have HC:=Lib.hid hc;have HU:=Lib.hid hU;clear hp hS hs hU hc hB;go_enter Tryz.func41,Tryz.ntmps41;go_wp2_with fail;refine HE.out.mono ?_;rintro e w1 ⟨rfl,hT,hB1⟩;have e0:=hB1.cell 0;have hl:=hB1.lt;have HT:=Lib.hid hT;clear hT hB1;go_wp2;go_ret2;exact⟨hQA HF.out.symm HC.out.symm,HT.out.under HU.out (Nat.le_refl _)⟩
 · have HE:=Lib.hid (a3A (W0:=w0) (c:=c) 79 w0.heap.size hn hs hp hS hU hc);have HF:=Lib.hid (show(if vB t=0 then wVA t else 0)=0 from if_neg hc);have HU:=Lib.hid hU;have HB:=Lib.hid hB;clear hp hS hs hU hc hB;go_enter Tryz.func41,Tryz.ntmps41;go_wp2_with fail;refine HE.out.mono ?_;rintro e w1 ⟨rfl,hU1⟩;have hB1:=HB.out.under hU1;have e0:=hB1.cell 0;have hl:=hB1.lt;have HU1:=Lib.hid hU1;clear hU1 hB1;go_wp2;go_ret2;exact⟨hQA HF.out.symm rfl,HU.out.trans HU1.out⟩
end
def hasB(ss:List ByteArray)(s:ByteArray):Bool:=ss.any fun x=>x.toList==s.toList
section
variable {w0 : World}
end
theorem xZA(n:Nat):iEA (n:Int)=bC n:=by
 unfold iEA bC;rw[show max (n:Int) 0=(n:Int) by omega,z3A,qAB]
section
variable {w0 : World}
end
section
variable {w0 : World}
def kQ(x y:Nd):Bool:=x.k==y.k&&(x.n==y.n&&(x.m==y.m&&x.s.toList==y.s.toList))
def sU : List Nd → List Nd → Bool
  | [],[]=>true
  | x::a,y::b=>kQ x y&&sU a b
  | _,_=>false
theorem nZA(x:Nd):kQ x x=true:=by simp[kQ]
theorem oAA : ∀ t : List Nd, sU t t = true
  | []=>rfl
  | x::t=>by simp[sU,nZA,oAA t]
theorem mJA : ∀ {a b : List Nd}, a.length ≠ b.length → sU a b = false
  | [],[],h=>absurd rfl h
  | x :: a, y :: b, h => by
    simp only[sU];rw[mJA (a:=a) (b:=b) (by simpa using h)];simp
  | [],y::b,h=>rfl
  | x::a,[],h=>rfl
def oCB(w0:World)(a b:List Nd)(i:Value)(wr:World):Prop:=∃ k:Nat,k≤a.length∧i = .int .i64 (k:Int)∧(sU a b=sU (a.drop k) (b.drop k))∧Under w0 wr
theorem eNA(a b:List Nd){u v:Value}(hn:a.length≤maxLen)(hu:TermV w0 u a)(hv:TermV w0 v b):Calls Tryz.prog 12 #[u,v] w0 fun e w=>e = .returned (.bool (sU a b))∧Under w0 w:=by
 obtain⟨p,c,rfl,_,_,hr⟩:=hu;obtain⟨p2,c2,rfl,_,_,hr2⟩:=hv;have HR:=Lib.hid hr;have HR2:=Lib.hid hr2;have hn0:(0:Int)≤(a.length:Int):=by omega
 have hn':(a.length:Int)≤9223372036854775807:=by unfold maxLen at hn;omega
 clear hr hn hr2;by_cases hl:a.length=b.length
 · have HLb := Lib.hid hl; have hl1 : ((a.length : Int) == (b.length : Int)) = true := by rw [hl]; simp
   rw[← hl]at hl1 ⊢;clear hl;go_enter Tryz.func12,Tryz.ntmps12;go_wp2;go_loopw [5] (fun i wr=>oCB w0 a b i wr) (fun i _=>a.length - (intOf i).toNat)
   case atStart=>exact⟨0,Nat.zero_le _,rfl,by simp,Under.refl _⟩
   case round =>
     obtain⟨k,hk,rfl,hN,hU⟩:=hrel;have HN:=Lib.hid hN;clear hN;by_cases hlt:k < a.length
     · have hlt2 : k < b.length := by rw [← HLb.out]; exact hlt
       obtain⟨b1,off1,rfl,hb1,c0,c1,c2,c3⟩:=RowArg.node HR.out (List.getElem?_eq_getElem hlt);obtain⟨b2,off2,rfl,hb2,d0,d1,d2,d3⟩:=RowArg.node HR2.out (List.getElem?_eq_getElem hlt2);rw[← jA hU hb1]at c0 c1 c2 c3;rw[← jA hU hb2]at d0 d1 d2 d3;have hb1':=Nat.lt_of_lt_of_le hb1 hU.size;have hb2':=Nat.lt_of_lt_of_le hb2 hU.size;have hd:sU (a.drop k) (b.drop k)=(kQ a[k] b[k]&&sU (a.drop (k+1)) (b.drop (k+1))):=by rw[List.drop_eq_getElem_cons hlt,List.drop_eq_getElem_cons hlt2];rfl
       have HD:=Lib.hid hd;have HU:=Lib.hid hU;clear hd hU;generalize a[k]=x at *;generalize b[k]=y at *
       cases h1:(x.k==y.k)
       · skip
         have HX:RowKit.Hid (kQ x y=false):=Lib.hid (by unfold kQ;simp[*]);go_wp2_with fail;go_quiet (fail);go_wp2;go_ret;exact⟨by rw[HN.out,HD.out,HX.out];rfl,bB HU.out _⟩
       cases h2:(x.n==y.n)
       · skip
         have HX:RowKit.Hid (kQ x y=false):=Lib.hid (by unfold kQ;simp[*]);go_wp2_with fail;go_quiet (fail);go_wp2;go_ret;exact⟨by rw[HN.out,HD.out,HX.out];rfl,bB HU.out _⟩
       cases h3:(x.m==y.m)
       · skip
         have HX:RowKit.Hid (kQ x y=false):=Lib.hid (by unfold kQ;simp[*]);go_wp2_with fail;go_quiet (fail);go_wp2;go_ret;exact⟨by rw[HN.out,HD.out,HX.out];rfl,bB HU.out _⟩
       cases h4:(x.s.toList==y.s.toList)
       · skip
         have HX:RowKit.Hid (kQ x y=false):=Lib.hid (by unfold kQ;simp[*]);go_wp2_with fail;go_quiet (fail);go_wp2;go_ret;exact⟨by rw[HN.out,HD.out,HX.out];rfl,bB HU.out _⟩
       have HX:RowKit.Hid (kQ x y=true):=Lib.hid (by unfold kQ;rw[h1,h2,h3,h4];rfl);go_wp2_with fail;go_quiet (fail);go_wp2;go_roundw
       case rel=>exact⟨k+1,by omega,by go_num,by rw[HN.out,HD.out,HX.out];rfl,bB HU.out _⟩
       case measure=>simp[intOf];omega
     · obtain rfl : k = a.length := by omega
       have HE:RowKit.Hid (sU a b=true):=Lib.hid (by rw[HN.out,List.drop_length,HLb.out,List.drop_length];rfl);have HU:=Lib.hid hU;clear hU;go_wp2;go_ret;exact⟨by rw[HE.out];rfl,HU.out⟩
 · have HE := Lib.hid (mJA hl); have hl1 : ((a.length : Int) == (b.length : Int)) = false := by simp; omega
   clear hl;go_enter Tryz.func12,Tryz.ntmps12;go_wp2;go_ret;exact⟨by rw[HE.out];rfl,Under.refl _⟩
end
section
variable {w0 : World}
theorem kNA{t:List Nd}{x:Nd}{v:Value}(hn:t.length≤1000000)(hx:t[t.length - 1]? = some x)(hv:TermV w0 v t):Calls Tryz.prog 87 #[v] w0 fun e w=>e = .returned (ndV x)∧Under w0 w:=by
 obtain⟨p,c,rfl,_,_,hr⟩:=hv;have hpos:0 < t.length:=by have:=(List.getElem?_eq_some_iff.1 hx).1;omega
 obtain⟨b,off,rfl,hb,c0,c1,c2,c3⟩:=RowArg.node hr hx;have hb0:(b < w0.heap.size):=hb;obtain⟨m,hm⟩:∃ m,t.length=m+1:=⟨t.length - 1,by omega⟩;have hmi:((m:Int)+1 - 1)=(m:Int):=by omega
 rw[hm]at c0 c1 c2 c3 ⊢;simp only[Nat.add_sub_cancel]at c0 c1 c2 c3;have hm1:(m:Int)≤1000000:=by omega
 have hm0:(0:Int)≤(m:Int):=by omega
 clear hx hr hm hn hpos;go_enter Tryz.func87,Tryz.ntmps87;go_wp2;refine bodyPost_ret (v:=ndV x) ?_ rfl ⟨rfl,aA (Under.refl _) _⟩;simp[results,Tryz.f87,go_sem,ndV]
end
def lT(x:Nd):Bool:=(x.n==0)&&(x.m==0)&&x.s.toList.isEmpty
section
variable {w0 : World}
theorem oJA(x:Nd):Calls Tryz.prog 117 #[ndV x] w0 fun e w=>e = .returned (.bool (lT x))∧w=w0.alloc (.cells #[.int .i64 x.k,.int .i64 x.n,.int .i64 x.m,.string x.s] 76):=by
 have HO:RowKit.Hid (lT x=((x.n==0)&&(x.m==0)&&x.s.toList.isEmpty)):=Lib.hid rfl;generalize lT x=r at *;unfold ndV
 cases h1:(x.n==0)
 · rw[h1]at HO;go_enter Tryz.func117,Tryz.ntmps117;go_wp2;go_ret;exact⟨by rw[HO.out];rfl,rfl⟩
 · rw [h1] at HO
   cases h2:(x.m==0)
   · rw[h2]at HO;go_enter Tryz.func117,Tryz.ntmps117;go_wp2;go_ret;exact⟨by rw[HO.out];rfl,rfl⟩
   · rw [h2] at HO
     cases h3:x.s.toList.isEmpty
     all_goals
      rw[h3]at HO;go_enter Tryz.func117,Tryz.ntmps117;go_wp2;go_ret;exact⟨by rw[HO.out];rfl,rfl⟩
def tCA(n:Int):Bool:=decide (0≤n)&&decide (n≤9)
theorem b0A(n:Int):Calls Tryz.prog 133 #[.int .i64 n] w0 fun e w=>e = .returned (.bool (tCA n))∧w=w0:=by
 have HO:RowKit.Hid (tCA n=(decide (0≤n)&&decide (n≤9))):=Lib.hid rfl;generalize tCA n=r at *;by_cases h1:0≤n
 · by_cases h2 : n ≤ 9
   all_goals
    go_enter Tryz.func133,Tryz.ntmps133;go_wp2;go_ret;exact⟨by rw[HO.out];simp[h1];try omega,rfl⟩
 · go_enter Tryz.func133,Tryz.ntmps133;go_wp2;go_ret;exact⟨by rw[HO.out];simp;omega,rfl⟩
theorem zMA(n:Int):Calls Tryz.prog 116 #[.int .i64 n] w0 fun e w=>e = .returned (.int .i64 (if tCA n then 0 else 1))∧w=w0:=by
 have HL:=Lib.hid (b0A (w0:=w0) n)
 cases h:tCA n
 all_goals
  rw[h]at HL;go_enter Tryz.func116,Tryz.ntmps116;go_wp2_with fail;refine HL.out.mono ?_;rintro e w1 ⟨rfl,rfl⟩;go_wp2;go_ret;exact⟨rfl,rfl⟩
end
theorem aK(w:World)(base:Nat)(e:TypeId)(size:Nat)(hb:base≤w.heap.size):(w.alloc (.cells #[] e)).ownsRow base e size (.slice (some ⟨w.heap.size,0,none⟩) 0 0) 0 [] :=
 ⟨by simp,.inr ⟨w.heap.size,0,#[],rfl,hb,yA w _ _,Nat.le_refl _,by unfold maxLen;omega,by simp,by simp⟩⟩
def BOut(w0:World)(l:List Nat)(b:Bool)(e:Ending)(w:World):Prop:=∃ q c,e = .returned (.tuple #[.slice q l.length c,.bool b])∧l.length≤c∧RowArg w q (iE l)∧Under w0 w
def p5A:List (Int×List Nat):=[(4,[0,1]),(5,[0,0]),(15,[0,0]),(19,[0,0]),(23,[0,0]),(7,[0,0,0]),(18,[0,0,0]),(8,[0]),(9,[0]),(12,[0]),(28,[0]),(13,[1,0,2,0]),(20,[0,0,0,0]),(21,[0,0,1,0,0,0]),(22,[0,2,0,0,0]),(24,[0,1,0,0])]
section
variable {w0 : World}
theorem i9A(k n m:Int)(s:ByteArray)(l:List Nat)(h:(k,l)∈p5A):Calls Tryz.prog 88 #[ndV ⟨k,n,m,s⟩] w0 (BOut w0 l (lT ⟨k,n,m,s⟩)):=by
 obtain⟨i0,hi,hz0,hz1,hz2⟩:=info_parts Tryz.infoInt;obtain⟨x,Hx⟩:∃ x,RowKit.Hid (x=k):=⟨k,Lib.hid rfl⟩;have HPl:=Lib.hid (fun w=>oJA (w0:=w) ⟨k,n,m,s⟩);generalize lT ⟨k,n,m,s⟩=pb at *;unfold ndV at *;simp only at HPl ⊢;obtain⟨WN,HW⟩:∃ WN,RowKit.Hid (WN=w0.alloc (.cells #[.int .i64 x,.int .i64 n,.int .i64 m,.string s] 76)):=⟨_,Lib.hid rfl⟩;obtain⟨hs,HBx,HU⟩:WN.heap.size=w0.heap.size+1∧RowKit.Hid (BoxAt (WN.alloc (.cells #[] 3)) w0.heap.size 76 #[.int .i64 x,.int .i64 n,.int .i64 m,.string s])∧RowKit.Hid (Under w0 (WN.alloc (.cells #[] 3))):=by
  rw[HW.out];exact⟨by simp,(yA w0 _ _).alloc _,aA (aA (Under.refl _) _) _⟩
 have HR:=Lib.hid (hs▸aK WN (w0.heap.size+1) 3 1 (by omega));rw[← Hx.out]at HPl;simp only[p5A,List.mem_cons,Prod.mk.injEq,List.not_mem_nil,or_false]at h;rcases h with⟨rfl,rfl⟩ | ⟨rfl,rfl⟩ | ⟨rfl,rfl⟩ | ⟨rfl,rfl⟩ | ⟨rfl,rfl⟩ | ⟨rfl,rfl⟩ | ⟨rfl,rfl⟩ | ⟨rfl,rfl⟩ | ⟨rfl,rfl⟩ | ⟨rfl,rfl⟩ | ⟨rfl,rfl⟩ | ⟨rfl,rfl⟩ | ⟨rfl,rfl⟩ | ⟨rfl,rfl⟩ | ⟨rfl,rfl⟩ | ⟨rfl,rfl⟩
 all_goals
  go_enter Tryz.func88, Tryz.ntmps88; go_wp2_with fail; rw [← Hx.out, ← HW.out]; have Hs := Lib.hid hs; clear hs Hx HW; generalize WN.alloc (.cells #[] 3) = W1 at *; have c0 := HBx.out.cell 0; have c1 := HBx.out.cell 1; have c2 := HBx.out.cell 2; have c3 := HBx.out.cell 3; refine wp_region_noPanic ?_; go_region_held3 (fun w' => w'.cell? ⟨w0.heap.size, 0, none⟩ = some (.int .i64 x) ∧ w'.cell? ⟨w0.heap.size, 1, none⟩ = some (.int .i64 n) ∧ w'.cell? ⟨w0.heap.size, 2, none⟩ = some (.int .i64 m) ∧ w'.cell? ⟨w0.heap.size, 3, none⟩ = some (.string s))
    (first
      | exact⟨(HB2.out.alloc _).cell 0,(HB2.out.alloc _).cell 1,(HB2.out.alloc _).cell 2,(HB2.out.alloc _).cell 3⟩
      | exact⟨HBx.out.drew.cell 0,HBx.out.drew.cell 1,HBx.out.drew.cell 2,HBx.out.drew.cell 3⟩
      | exact⟨HB2.out.cell 0,HB2.out.cell 1,HB2.out.cell 2,HB2.out.cell 3⟩
      | exact⟨(HBx.out.alloc _).drew.cell 0,(HBx.out.alloc _).drew.cell 1,(HBx.out.alloc _).drew.cell 2,(HBx.out.alloc _).drew.cell 3⟩)
    (first
      | (go_at_call 117
         refine(HPl.out _).mono ?_;rintro e w3 ⟨rfl,rfl⟩)
      | (refine step_append_lies _ (by rfl) _ _ _ (by rfl) (w0.heap.size + 1) 3 i0 _ 1 8 Tryz.underlying105 hi hz0 hz1 hz2 rfl (by omega) _ 0 [] (by rfl) (HR.out.alloc _).drew ⟨W1.heap.size, 0, none⟩ _ _ _ (by rfl) (by rfl) (World.news_of_block (fr := (0, 0)) (heap_alloc_new W1 _)) (by simp [Value.oneCell']) (by omega) (by simp [maxLen]) (by simp) (by have := HBx.out.lt; simp; omega) (W1.heap.size + 1) (by simp) ?_
         intro gg cc w2 hown2 hgrow hat hlt;have HB2:=Lib.hid (BoxAt.grown ((HBx.out.alloc (.cells _ 3)).drew) hgrow (fun e=>by simp[Value.ownBlock]at e));have HU2:=Lib.hid (eB (bA (aA HU.out (.cells _ 3))) hgrow (fun g e=>by have:=HBx.out.lt;simp[Value.ownBlock]at e;omega));have HO2:=Lib.hid hown2;clear hown2 hgrow hat hlt))
  refine NoPanic.normal ?_;obtain⟨q,c,hv,hc,hr⟩:=RowArg.of_own HO2.out
  cases hv;go_wp2;go_ret2;exact⟨_,_,rfl,hc,hr.under (aA (Under.refl _) _),aA HU2.out _⟩
end
theorem BOut.empty{w0 w:World}{b:Bool}(a:Nat)(h:Under w0 w):BOut w0 [] b (.returned (.tuple #[.slice (some ⟨a,0,none⟩) 0 0,.bool b])) w:=⟨_,_,rfl,Nat.le_refl _,RowArg.nil,h⟩
section
variable {w0 : World}
theorem y7A(k n m:Int)(s:ByteArray)(h:k=10∨k=11∨k=14∨k=16∨k=17∨k=29):Calls Tryz.prog 88 #[ndV ⟨k,n,m,s⟩] w0 (BOut w0 [] (lT ⟨k,n,m,s⟩)):=by
 have HPl:=Lib.hid (fun w=>oJA (w0:=w) ⟨k,n,m,s⟩);generalize lT ⟨k,n,m,s⟩=pb at *;unfold ndV at *;simp only at HPl ⊢;rcases h with rfl | rfl | rfl | rfl | rfl | rfl
 all_goals
  go_enter Tryz.func88,Tryz.ntmps88;go_wp2_with fail;refine(HPl.out _).mono ?_;rintro e w3 ⟨rfl,rfl⟩;go_wp2;go_ret2;exact BOut.empty _ (aA (aA (aA (Under.refl _) _) _) _)
theorem k3A(k n m:Int)(s:ByteArray)(h:k=1∨k=25):Calls Tryz.prog 88 #[ndV ⟨k,n,m,s⟩] w0 (BOut w0 [] ((n==0)&&(m==0)&&qD s)):=by
 have HNm:=Lib.hid (fun w=>xR (w0:=w) s);generalize qD s=nb at *;unfold ndV;rcases h with rfl | rfl<;>cases h1:(n==0)<;>cases h2:(m==0)
 all_goals
  go_enter Tryz.func88,Tryz.ntmps88
  first
   | (go_wp2_with fail
      refine(HNm.out _).mono ?_;rintro e w3 ⟨rfl,rfl⟩;go_wp2;go_ret2;exact BOut.empty _ (aA (aA (Under.refl _) _) _))
   | (go_wp2
      go_ret2;exact BOut.empty _ (aA (aA (Under.refl _) _) _))
end
section
variable {w0 : World}
theorem l1A(n m:Int)(s:ByteArray)(h:qD s=false∨n < 0∨6≤n∨m < 0∨6 < m):Calls Tryz.prog 88 #[ndV ⟨26,n,m,s⟩] w0 (BOut w0 [] false):=by
 have HNm:=Lib.hid (fun w=>xR (w0:=w) s);unfold ndV;generalize qD s=nb at *
 cases nb
 · clear h;go_enter Tryz.func88,Tryz.ntmps88;go_wp2_with fail;refine(HNm.out _).mono ?_;rintro e w3 ⟨rfl,rfl⟩;go_wp2;go_ret2;exact BOut.empty _ (aA (aA (Under.refl _) _) _)
 · by_cases h1 : n < 0
   · clear h;go_enter Tryz.func88,Tryz.ntmps88;go_wp2_with fail;refine(HNm.out _).mono ?_;rintro e w3 ⟨rfl,rfl⟩;go_wp2;go_ret2;exact BOut.empty _ (aA (aA (Under.refl _) _) _)
   · by_cases h2 : 6 ≤ n
     · clear h;go_enter Tryz.func88,Tryz.ntmps88;go_wp2_with fail;refine(HNm.out _).mono ?_;rintro e w3 ⟨rfl,rfl⟩;go_wp2;go_ret2;exact BOut.empty _ (aA (aA (Under.refl _) _) _)
     · by_cases h3 : m < 0
       · clear h;go_enter Tryz.func88,Tryz.ntmps88;go_wp2_with fail;refine(HNm.out _).mono ?_;rintro e w3 ⟨rfl,rfl⟩;go_wp2;go_ret2;exact BOut.empty _ (aA (aA (Under.refl _) _) _)
       · have h4 : 6 < m := by simp at h; omega
         clear h;go_enter Tryz.func88,Tryz.ntmps88;go_wp2_with fail;refine(HNm.out _).mono ?_;rintro e w3 ⟨rfl,rfl⟩;go_wp2;go_ret2;exact BOut.empty _ (aA (aA (Under.refl _) _) _)
theorem cZA(n:Int)(m:Nat)(s:ByteArray)(hs:qD s=true)(h1:0≤n)(h2:n < 6)(h3:m≤6):Calls Tryz.prog 88 #[ndV ⟨26,n,m,s⟩] w0 (BOut w0 (List.replicate m 0) true):=by
 have HNm:=Lib.hid (fun w=>xR (w0:=w) s);rw[hs]at HNm;obtain⟨i0,hi,hz0,hz1,hz2⟩:=info_parts Tryz.infoInt;unfold ndV;have m0:(0:Int)≤m:=Int.natCast_nonneg _;have m6:(m:Int)≤6:=by omega
 clear hs;go_enter Tryz.func88,Tryz.ntmps88;go_wp2_with fail;refine(HNm.out _).mono ?_;rintro e w3 ⟨rfl,rfl⟩;obtain⟨W1,hW1⟩:∃ W,W=(w0.alloc (.cells #[.int .i64 26,.int .i64 n,.int .i64 m,.string s] 76)).alloc (.cells #[] 3):=⟨_,rfl⟩;have c1:W1.cell? ⟨w0.heap.size,1,none⟩=some (.int .i64 n):=by rw[hW1];exact((yA w0 _ _).alloc _).cell 1
 have c2:W1.cell? ⟨w0.heap.size,2,none⟩=some (.int .i64 m):=by rw[hW1];exact((yA w0 _ _).alloc _).cell 2
 have hsz:w0.heap.size < W1.heap.size:=by rw[hW1];simp;omega
 have HU:=Lib.hid (show Under w0 W1 by rw[hW1];exact aA (aA (Under.refl _) _) _);rw[← hW1];clear hW1;go_wp2_with (at_make;refine wpList_make_full _ rfl _ _ _ rfl w0.heap.size 3 i0 _ 1 Tryz.underlying105 hi hz0 hz1 .i64 .i64 _ _ m rfl rfl rfl rfl ?c1 ?c2 ?c3 ?_)
 case c1=>rw[hz2];omega
 case c2=>simp only[maxLen];omega
 case c3=>omega
 intro w2 hown hgrow;have HO:=Lib.hid hown;have HU2:=Lib.hid (eB HU.out hgrow fun g e=>by cases e);clear hown hgrow;go_wp2;go_ret2;have hcs:(madeCells #[Value.int .i64 0] m).toList=iE (List.replicate m 0):=by
  apply List.ext_getElem
  · simp[iE,madeCells]
  · intro j h1 h2;simp[iE,madeCells,Nat.mod_one]
 obtain⟨q,c,hv,hc,hr⟩:=RowArg.of_own HO.out
 cases hv;exact⟨_,_,by rw[List.length_replicate];rfl,by rw[List.length_replicate];exact hc,by rw[← hcs];exact hr,HU2.out⟩
theorem t6A(k n m:Int)(s:ByteArray)(h:k < 0∨29 < k):Calls Tryz.prog 88 #[ndV ⟨k,n,m,s⟩] w0 (BOut w0 [] false):=by
 unfold ndV;have e:∀ j:Int,0≤j→j≤29→(k==j)=false:=fun j h1 h2=>by simp;omega
 have e0:=e 0 (by decide) (by decide);have e1:=e 1 (by decide) (by decide);have e2:=e 2 (by decide) (by decide);have e3:=e 3 (by decide) (by decide);have e4:=e 4 (by decide) (by decide);have e5:=e 5 (by decide) (by decide);have e6:=e 6 (by decide) (by decide);have e7:=e 7 (by decide) (by decide);have e8:=e 8 (by decide) (by decide);have e9:=e 9 (by decide) (by decide);have e10:=e 10 (by decide) (by decide);have e11:=e 11 (by decide) (by decide);have e12:=e 12 (by decide) (by decide);have e13:=e 13 (by decide) (by decide);have e14:=e 14 (by decide) (by decide);have e15:=e 15 (by decide) (by decide);have e16:=e 16 (by decide) (by decide);have e17:=e 17 (by decide) (by decide);have e18:=e 18 (by decide) (by decide);have e19:=e 19 (by decide) (by decide);have e20:=e 20 (by decide) (by decide);have e21:=e 21 (by decide) (by decide);have e22:=e 22 (by decide) (by decide);have e23:=e 23 (by decide) (by decide);have e24:=e 24 (by decide) (by decide);have e25:=e 25 (by decide) (by decide);have e26:=e 26 (by decide) (by decide);have e27:=e 27 (by decide) (by decide);have e28:=e 28 (by decide) (by decide);have e29:=e 29 (by decide) (by decide);clear e h;go_enter Tryz.func88,Tryz.ntmps88;go_wp2;go_ret2;exact BOut.empty _ (aA (aA (Under.refl _) _) _)
end
end Go.Proofs.YtlnlpdephijcoaaGreatDoor
