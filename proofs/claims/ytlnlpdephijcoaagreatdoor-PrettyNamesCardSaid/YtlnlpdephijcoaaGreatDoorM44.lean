/- Part 44 of what the proof rests on. -/
import Derived.Test.YtlnlpdephijcoaaGreatDoorM01
import Derived.Test.YtlnlpdephijcoaaGreatDoorM02
import Derived.Test.YtlnlpdephijcoaaGreatDoorM12
import Derived.Test.YtlnlpdephijcoaaGreatDoorM14
import Derived.Test.YtlnlpdephijcoaaGreatDoorM16
import Derived.Test.YtlnlpdephijcoaaGreatDoorM22
import Derived.Test.YtlnlpdephijcoaaGreatDoorM33
import Derived.Test.YtlnlpdephijcoaaGreatDoorM38
import Derived.Test.YtlnlpdephijcoaaGreatDoorM43
set_option linter.unusedSimpArgs false
set_option linter.unusedVariables false
set_option maxRecDepth 100000
set_option maxHeartbeats 1000000
namespace Go.Proofs.YtlnlpdephijcoaaGreatDoor
open Go.Lx Go.RowKit
def HzOut(w0:World)(t:List Nd)(av:List ByteArray)(e:Ending)(w:World):Prop:=∃ b,e = .returned (.bool b)∧w=w0∧(b=false→t.length≤120∧av.length≤30∧(∀ x∈t,x.s.size≤100)∧∀ s∈av,s.size≤100)
theorem HzOut.yes{w0:World}{t:List Nd}{av:List ByteArray}:HzOut w0 t av (.returned (.bool true)) w0:=⟨true,rfl,rfl,fun h=>by cases h⟩
def dAB{α:Type}(w0:World)(t:List α)(f:α→Prop)(i:Value)(wr:World):Prop:=∃ k:Nat,k≤t.length∧i = .int .i64 (k:Int)∧(∀ x∈t.take k,f x)∧wr=w0
theorem tJA{α:Type}{l:List α}{k:Nat}{Pr:α→Prop}(hk:k < l.length)(h:∀ x∈l.take k,Pr x)(h1:Pr l[k]):∀ x∈l.take (k+1),Pr x:=by
 rw[List.take_succ_eq_append_getElem hk];intro x hx;rcases List.mem_append.1 hx with hx | hx
 · exact h x hx
 · rw[List.mem_singleton.1 hx];exact h1
def bJ(l:List ByteArray):Bool:=l.any fun s=>bX s||gX s
def gDB(w0:World)(l:List ByteArray)(i:Value)(wr:World):Prop:=∃ k:Nat,k≤l.length∧i = .int .i64 (k:Int)∧bJ l=bJ (l.drop k)∧Under w0 wr
section
variable {w0 : World}
theorem aJA(t:List Nd)(av:List ByteArray){v va:Value}(hv:TermV w0 v t)(hva:TextsV w0 va av):Calls Tryz.prog 18 #[v,va] w0 (HzOut w0 t av):=by
 obtain⟨p,c,rfl,_,_,hp⟩:=hv;obtain⟨q,d,rfl,_,_,hq⟩:=hva;have HP:=Lib.hid hp;have HQ:=Lib.hid hq;have hl0:(0:Int)≤t.length:=by omega
 have ha0:(0:Int)≤av.length:=by omega
 clear hp hq;by_cases hl:t.length≤120
 · have hl' : ¬ (120 : Int) < t.length := by omega
   by_cases ha:av.length≤30
   · have ha' : ¬ (30 : Int) < av.length := by omega
     go_enter Tryz.func18,Tryz.ntmps18;go_wp2;go_loopw [5] (fun i wr=>dAB w0 t (fun x=>x.s.size≤100) i wr) (fun i _=>t.length - (intOf i).toNat)
     case atStart=>exact⟨0,Nat.zero_le _,rfl,fun x h=>by simp at h,rfl⟩
     case round =>
       obtain⟨k,hk,rfl,hN,rfl⟩:=hrel;have HN:=Lib.hid hN;clear hN;by_cases hlt:k < t.length
       · obtain ⟨b, off, rfl, hb, c0, c1, c2, c3⟩ := RowArg.node HP.out (List.getElem?_eq_getElem hlt); have HD := Lib.hid (fun h => tJA (Pr := fun x : Nd => x.s.size ≤ 100) hlt HN.out h); clear c0 c1 c2; generalize t[k] = x at *; by_cases hs : x.s.size ≤ 100
         · have hs' : ¬ (100 : Int) < x.s.size := by omega
           have HS:=Lib.hid (HD.out hs);clear hs;go_wp2;go_roundw
           case rel=>exact⟨k+1,by omega,by go_num,HS.out,rfl⟩
           case measure=>simp[intOf];omega
         · have hs' : (100 : Int) < x.s.size := by omega
           clear hs;go_wp2;go_ret;exact HzOut.yes
       · obtain rfl : k = t.length := by omega
         have HT:=HN.out;rw[List.take_length]at HT;replace HT:=Lib.hid HT;clear HN;go_wp2;go_loopw [6] (fun i w2=>dAB wr av (fun s=>s.size≤100) i w2) (fun i _=>av.length - (intOf i).toNat)
         case atStart=>exact⟨0,Nat.zero_le _,rfl,fun x h=>by simp at h,rfl⟩
         case round =>
           obtain⟨k,hk,rfl,hN,rfl⟩:=hrel;have HN:=Lib.hid hN;clear hN;by_cases hlt:k < av.length
           · obtain ⟨b, off, rfl, hb, cc⟩ := fMA HQ.out hlt; have HD := Lib.hid (fun h => tJA (Pr := fun s : ByteArray => s.size ≤ 100) hlt HN.out h); generalize av[k] = x at *; by_cases hs : x.size ≤ 100
             · have hs' : ¬ (100 : Int) < x.size := by omega
               have HS:=Lib.hid (HD.out hs);clear hs;go_wp2;go_roundw
               case rel=>exact⟨k+1,by omega,by go_num,HS.out,rfl⟩
               case measure=>simp[intOf];omega
             · have hs' : (100 : Int) < x.size := by omega
               clear hs;go_wp2;go_ret;exact HzOut.yes
           · obtain rfl : k = av.length := by omega
             have HA:=HN.out;rw[List.take_length]at HA;replace HA:=Lib.hid HA;clear HN;go_wp2;go_ret;exact⟨false,rfl,rfl,fun _=>⟨hl,ha,HT.out,HA.out⟩⟩
   · have ha' : (30 : Int) < av.length := by omega
     clear ha;go_enter Tryz.func18,Tryz.ntmps18;go_wp2;go_ret;exact HzOut.yes
 · have hl' : (120 : Int) < t.length := by omega
   clear hl;go_enter Tryz.func18,Tryz.ntmps18;go_wp2;go_ret;exact HzOut.yes
theorem jW(l:List ByteArray){v:Value}(hn:l.length≤100000)(hv:TextsV w0 v l):Calls Tryz.prog 23 #[v] w0 fun e w=>e = .returned (.bool (bJ l))∧Under w0 w:=by
 obtain⟨q,d,rfl,_,_,hq⟩:=hv;have HQ:=Lib.hid hq;have hl0:(0:Int)≤l.length:=by omega
 have hl9:(l.length:Int)≤100000:=by omega
 clear hq;go_enter Tryz.func23,Tryz.ntmps23;go_wp2;go_loopw [3] (fun i wr=>gDB w0 l i wr) (fun i _=>l.length - (intOf i).toNat)
 case atStart=>exact⟨0,Nat.zero_le _,rfl,by simp,Under.refl _⟩
 case round =>
   obtain⟨k,hk,rfl,hN,hU⟩:=hrel;have HN:=Lib.hid hN;have HU:=Lib.hid hU;clear hN hU;by_cases hlt:k < l.length
   · obtain ⟨b, off, rfl, hb, cc⟩ := fMA (HQ.out.under HU.out) hlt; have HD := Lib.hid (show bJ (l.drop k) = ((bX l[k] || gX l[k]) || bJ (l.drop (k + 1))) by rw [List.drop_eq_getElem_cons hlt]; rfl); have HK := Lib.hid (fun w => oLA (w0 := w) l[k]); generalize l[k] = x at *; generalize (bX x || gX x) = r at *
     cases r
     · go_wp2_with fail; refine (HK.out _).mono ?_; rintro e w2 ⟨rfl, hU2⟩; have HU2 := Lib.hid (HU.out.trans hU2); clear hU2; go_wp2; go_roundw
       case rel=>exact⟨k+1,by omega,by go_num,by rw[HN.out,HD.out];rfl,HU2.out⟩
       case measure=>simp[intOf];omega
     · go_wp2_with fail;refine(HK.out _).mono ?_;rintro e w2 ⟨rfl,hU2⟩;have HU2:=Lib.hid (HU.out.trans hU2);clear hU2;go_wp2;go_ret;exact⟨by rw[HN.out,HD.out];rfl,HU2.out⟩
   · obtain rfl : k = l.length := by omega
     go_wp2;go_ret;exact⟨by rw[HN.out,List.drop_length];rfl,HU.out⟩
end
structure Base (W:World):Prop where
 shapes:ShapesAt 0 W
 pow:Pow10 W
theorem Base.under{W w:World}(h:Base W)(hU:Under W w):Base w:=⟨h.shapes.under hU,h.pow.under hU⟩
abbrev gLA(s:List UInt8)(e:Int):Ending:=.returned (.tuple #[.string ⟨s.toArray⟩,.int .i64 e])
def nmZ(p:Nd→Bool)(t:List Nd):List ByteArray:=if vB t=0 then aC p [] t else []
def vVA(w:World)(t:List Nd)(x:Ending)(w':World):Prop:=∃ q c q' c',x = .returned (.tuple #[.slice q (nmZ vG t).length c,.slice q' (nmZ qJ t).length c',.int .i64 (vB t)])∧TextsV w' (.slice q (nmZ vG t).length c) (nmZ vG t)∧TextsV w' (.slice q' (nmZ qJ t).length c') (nmZ qJ t)∧Under w w'
theorem rNA{w w':World}{t:List Nd}{a b:Value}(ha:TextsV w' a (nmZ vG t))(hb:TextsV w' b (nmZ qJ t))(hU:Under w w'):vVA w t (.returned (.tuple #[a,b,.int .i64 (vB t)])) w':=by
 have ha':=ha;have hb':=hb;obtain⟨q,c,rfl,_⟩:=ha';obtain⟨q',c',rfl,_⟩:=hb';exact⟨q,c,q',c',rfl,ha,hb,hU⟩
theorem gHA(t:List Nd)(hl:t.length≤120)(hs:∀ x∈t,x.s.size≤100)(w:World)(v:Value)(hv:TermV w v t)(hB:Base w):Calls Tryz.prog 22 #[v] w (vVA w t):=by
 obtain⟨p,c,rfl,hcap,hp0,hp⟩:=hv;by_cases h:vB t=0
 · refine (qIA (c := c) t (fun x hx => by have := hs x hx; omega) (by omega) hp hB.shapes h).mono ?_; rintro e w' ⟨a, b, rfl, ha, hb, hU⟩; have e1 : ∀ p, nmZ p t = aC p [] t := fun p => if_pos h
   have:=rNA (t:=t) (a:=a) (b:=b) (by rw[e1];exact TextsV.of_own ha) (by rw[e1];exact TextsV.of_own hb) hU
   rwa [h]at this
 · refine (yTA (c := c) t (by simp only [maxLen]; omega) (fun x hx => by have := hs x hx; simp only [maxLen]; omega) hp hB.shapes h).mono ?_; rintro e w' ⟨rfl, hU⟩; have e1 : ∀ p, nmZ p t = [] := fun p => if_neg h
   exact rNA (t:=t) (by rw[e1];exact TextsV.nil _) (by rw[e1];exact TextsV.nil _) hU
section
variable {w0 : World}
def wXA:Tm:=.mk ⟨10,0,0,⟨#[]⟩⟩ []
theorem b8A:okT wXA:=⟨by kernel_rfl,by kernel_rfl,trivial⟩
theorem a9A:inT wXA 0:=by unfold wXA inT;rw[if_neg (by decide)];unfold oFA;trivial
theorem iWA{w:World}{b:Nat}(hp:RowArg w (some ⟨b,0,none⟩) (zB [⟨10,0,0,⟨#[]⟩⟩]))(hB:Base w):Calls Tryz.prog 20 #[.slice (some ⟨b,0,none⟩) 1 1,.slice none 0 0] w fun e w'=>e = .returned (.tuple #[.string ⟨#[78,97,116]⟩,.int .i64 0])∧Under w w':=by
 have h:=vAA (w0:=w) wXA [] (p:=some ⟨b,0,none⟩) (c:=1) (va:=.slice none 0 0) b8A (by decide) (by decide) (by decide) (fun x hx=>by rw[List.mem_singleton.1 hx];decide) (by decide) (fun h=>by cases h) hp (TextsV.nil _) hB.shapes hB.pow a9A;have e:(aG (aC vG [] (flat wXA)++[]) wXA []).toArray=#[78,97,116]:=by kernel_rfl
 rw[e]at h;exact h
theorem uIA(hB:Base w0):Calls Tryz.prog 19 #[] w0 fun e w=>e = .returned (.bool true)∧Under w0 w:=by
 have HU:=Lib.hid (aA (Under.refl w0) (.cells #[.int .i64 10,.int .i64 0,.int .i64 0,.string ⟨#[]⟩] 76));have HP:=Lib.hid (iWA (b:=w0.heap.size) (gDA w0 [.int .i64 10,.int .i64 0,.int .i64 0,.string ⟨#[]⟩] 76 (0,0)) (hB.under HU.out));have HN:=Lib.hid (fun w (h:Under w0 w)=>uJA (w0:=w) 3 (by decide) (by decide) (hB.under h).pow);have e3:iEA 3=⟨#[120,51]⟩:=by kernel_rfl
 rw[e3]at HN;clear hB e3;go_enter Tryz.func19,Tryz.ntmps19;go_wp2_with fail;refine HP.out.mono ?_;rintro e w1 ⟨rfl,hU1⟩;have HU1:=Lib.hid (HU.out.trans hU1);clear hU1;go_wp2_with fail;refine(HN.out _ HU1.out).mono ?_;rintro e w2 ⟨rfl,hU2⟩;have HU2:=Lib.hid (HU1.out.trans hU2);clear hU2;go_wp2;go_ret;exact⟨rfl,HU2.out⟩
end
end Go.Proofs.YtlnlpdephijcoaaGreatDoor
namespace Go.Proofs.YtlnlpdephijcoaaGreatDoor
open Go.Conc Go.Lx Go.RowKit
def Tok.p(t:Tok):PTok:=⟨t.kind,t.at_,t.text⟩
theorem pMA(all:List Tok):∀ k t,all[k]? = some t→(bI all)[k * 3]? = some (.int .i64 t.kind)∧(bI all)[k * 3+1]? = some (.int .i64 (t.at_:Int))∧(bI all)[k * 3+2]? = some (.string t.text):=by
 induction all with
 | nil=>intro k t h;simp at h
 | cons x l ih =>
   intro k t h
   cases k with
   | zero=>cases h;exact⟨rfl,rfl,rfl⟩
   | succ k =>
     have:=ih k t h;rw[show(k+1) * 3=k * 3+1+1+1 by omega,show k * 3+1+1+1+1=(k * 3+1)+1+1+1 by omega,show k * 3+1+1+1+2=(k * 3+2)+1+1+1 by omega];exact this
def ReadPost(W:World)(R:Except (Int×Int) (List Sx))(v:Value)(w:World):Prop :=
 Under W w∧match R with
  | .ok row=>∃ vr,v = .tuple #[vr,.int .i64 0,.int .i64 0]∧w.ownsRow W.heap.size 29 3 vr row.length (wD row)
  | .error (p,c)=>v = .tuple #[.slice none 0 0,.int .i64 p,.int .i64 c]
theorem tBB{w:World}{base:Nat}{e:TypeId}{size n:Nat}{v:Value}{xs:List Value}(h:w.ownsRow base e size v n xs)(τ:Nat→Question→Nat)(d:Nat):(re w τ d).ownsRow base e size v n xs:=h
theorem ReadPost.re{W:World}{R:Except (Int×Int) (List Sx)}(v:Value)(w:World)(τ:Nat→Question→Nat)(d:Nat)(h:ReadPost W R v w):ReadPost W R v (re w τ d):=by
 obtain⟨h1,h2⟩:=h;refine⟨h1.re τ d,?_⟩
 cases R with
 | error p=>exact h2
 | ok row=>obtain⟨vr,e,h3⟩:=h2;exact⟨vr,e,tBB h3 τ d⟩
theorem o9A{W w:World}{l:Value}{all:List Tok}(h:w.ownsRow W.heap.size 174 3 l all.length (bI all)):∃ p cap,l = .slice p all.length cap∧rSA w p (all.map Tok.p):=by
 rcases h.2 with⟨rfl,h0⟩ | ⟨g,cap,cur,rfl,hb,hg,rest⟩
 · refine⟨none,0,by rw[h0],fun hne=>?_⟩;have:all=[]:=List.length_eq_zero_iff.1 h0;subst this;exact absurd rfl hne
 · refine⟨_,cap,rfl,fun _=>⟨g,0,rfl,(Array.getElem?_eq_some_iff.1 hg).1,fun k t ht=>?_⟩⟩;rw[List.getElem?_map]at ht;obtain⟨u,hu,rfl⟩:=Option.map_eq_some_iff.1 ht;obtain⟨h1,h2,h3⟩:=pMA all k u hu;rw[Nat.zero_add];exact⟨lC h rfl h1,lC h rfl h2,lC h rfl h3⟩
theorem nY{P:Program}{fn:Func}{t u r:Tmp}{Post:Value→World→Prop}{a:Act}{w:World}(h:fn.results=#[.tmp t,.tmp u,.tmp r])(hd:a.defers=[])(hp:Post (.tuple #[a.tmps.getD t undef,a.tmps.getD u undef,a.tmps.getD r undef]) w):qAA P fn Post .ret a w :=
 ⟨hd,_,fun _ _=>results_tmp3 h _ P _,hp⟩
theorem dUA{s:ByteArray}{all:List Tok}(h:Lexes s all)(hk:∀ t∈all,t.kind=1∨t.kind=2∨t.kind=3)(W:World) :
 CallsG Tryz.prog 38 #[.string s] W (ReadPost W (eF (all.map Tok.p) [] [] ⟨0,0,⟨#[]⟩⟩)):=by
 refine uM zD Tryz.func38 rfl ?_ ReadPost.re;simp only[Tryz.ntmps38,List.size_toArray,List.length_cons,List.length_nil,Nat.reduceAdd,Nat.reduceSub,Array.replicate_succ,Array.replicate_zero,List.push_toArray,List.append_toArray,List.nil_append,List.cons_append];refine aF zD (nC zD fun τ d=>?_);go_wp2;refine yBA ?_ τ d;refine aF zD ?_;refine aW zD 1 (by decide) fun τ d=>?_
 simp only[List.take_succ_cons,List.take_zero];go_wp2;refine fDA ?_ τ d;refine xV (i:=1) (rest:=List.range' 2 7) zD rfl (by rfl) (mQ (vs:=#[.string s]) rfl Tryz.func73 (by kernel_rfl) rfl (by simp[Act.eval])) (h.calls W) ?_;rintro v w1 ⟨l,rfl,hown,hU1⟩;obtain⟨p,cap,rfl,hp⟩:=o9A hown;have hlen:(all.map Tok.p).length≤1000000:=by rw[List.length_map];exact h.len
 have hkk:∀ t∈all.map Tok.p,t.kind=1∨t.kind=2∨t.kind=3:=by
  intro t ht;obtain⟨u,hu,rfl⟩:=List.mem_map.1 ht;exact hk u hu
 have hc:=fun τ d=>fZA (w0:=re w1 τ d) (cap:=cap) (all.map Tok.p) hlen hp hkk
 simp only[List.length_map]at hc;have HC:=Lib.hid hc;clear hc;clear hown hp hkk hlen hk h;generalize eF (all.map Tok.p) [] [] ⟨0,0,⟨#[]⟩⟩=R at *;refine fT zD 2 7 0 (by decide) fun τ d=>?_
 simp only[List.drop_succ_cons,List.drop_zero,List.take_succ_cons,List.take_zero];walk_nrm;go_wp2;refine uZ zD ?_;simp only[Exit.then];refine yBA ?_ τ d;refine nC zD fun τ d=>?_
 go_wp2_with fail;refine(HC.out τ d).mono ?_;rintro e w2 ⟨hU2,hR⟩;have hUU:Under W w2:=hU1.trans ⟨hU2.os,hU2.output,hU2.size,hU2.low⟩;have hz:W.heap.size≤(re w1 τ d).heap.size:=hU1.size
 cases R with
 | ok row =>
   obtain⟨vr,rfl,ho⟩:=hR;have HO:=Lib.hid ho;clear ho;go_wp2;exact nY rfl rfl ⟨hUU,vr,rfl,gZ HO.out hz⟩
 | error pc =>
   obtain⟨p',c⟩:=pc;subst hR;go_wp2;exact nY rfl rfl ⟨hUU,rfl⟩
def TermPost(W:World)(R:Say)(v:Value)(w:World):Prop:=Under W w∧match R with
 | .ok t=>∃ u,v = .tuple #[u,.int .i64 0,.int .i64 0]∧TermV w u t
 | .error (c,p)=>v = .tuple #[.slice none 0 0,.int .i64 p,.int .i64 c]
theorem dFA{w:World}{u:Value}{t:List Nd}(h:TermV w u t)(τ:Nat→Question→Nat)(d:Nat):TermV (re w τ d) u t:=h
theorem TermPost.re{W:World}{R:Say}(v:Value)(w:World)(τ:Nat→Question→Nat)(d:Nat)(h:TermPost W R v w):TermPost W R v (re w τ d):=by
 obtain⟨h1,h2⟩:=h;refine⟨h1.re τ d,?_⟩
 cases R with
 | error p=>exact h2
 | ok t=>obtain⟨u,e,h3⟩:=h2;exact⟨u,e,dFA h3 τ d⟩
theorem TermOut.post{w0 W:World}{R:Say}{e:Ending}{w:World}(h:TermOut w0 R e w)(hU:Under W w0):∃ v,e = .returned v∧TermPost W R v w:=by
 obtain⟨h1,h2⟩:=h
 cases R with
 | error p=>exact⟨_,h2,hU.trans h1,rfl⟩
 | ok t=>obtain⟨u,e,h3⟩:=h2;exact⟨_,e,hU.trans h1,u,rfl,h3⟩
theorem yOA {s : ByteArray} {all : List Tok} (h : Lexes s all) (hk : ∀ t ∈ all, t.kind = 1 ∨ t.kind = 2 ∨ t.kind = 3) {T : ST} (hp : eF (all.map Tok.p) [] [] ⟨0, 0, ⟨#[]⟩⟩ = .ok (jB T)) (cs ds : List ByteArray) (W : World) (hok : okS T) (hn : (jB T).length ≤ 20000) (hw : ∀ x ∈ jB T, x.word.size ≤ 1000000) (hE : StrcAt W) (hS : ShapesAt 0 W)
    {p1 p2:Option Addr} {d1 d2:Nat} (hcs:TextsV W (.slice p1 cs.length d1) cs) (hds:TextsV W (.slice p2 ds.length d2) ds) (hcn:cs.length≤1000000) (hdn:ds.length≤1000000) :
    CallsG Tryz.prog 16 #[.agg #[.slice p1 cs.length d1,.slice p2 ds.length d2],.string s] W (TermPost W (rJA cs ds T)):=by
  refine uM zD Tryz.func16 rfl ?_ TermPost.re;simp only[Tryz.ntmps16,List.size_toArray,List.length_cons,List.length_nil,Nat.reduceAdd,Nat.reduceSub,Array.replicate_succ,Array.replicate_zero,List.push_toArray,List.append_toArray,List.nil_append,List.cons_append];refine aF zD (nC zD fun τ d=>?_);go_wp2;have HU0:=Lib.hid (aA ((Under.refl W).re τ d) (.cells #[.slice p1 cs.length d1,.slice p2 ds.length d2] 24));have HB0:=Lib.hid (yA (re W τ d) #[.slice p1 cs.length d1,.slice p2 ds.length d2] 24);have hsz:(re W τ d).heap.size=W.heap.size:=rfl;rw[hsz]at HB0 ⊢;generalize (re W τ d).alloc (.cells #[.slice p1 cs.length d1,.slice p2 ds.length d2] 24)=w2 at *;clear hsz;refine aF zD ?_;refine aW zD 1 (by decide) fun τ d=>?_
  simp only[List.take_succ_cons,List.take_zero];go_wp2;refine fDA ?_ τ d;refine xV (i:=1) (rest:=List.range' 2 7) zD rfl (by rfl) (mQ (vs:=#[.string s]) rfl Tryz.func38 (by kernel_rfl) rfl (by simp[Act.eval])) (dUA h hk w2) ?_;rintro v w3 ⟨hU3,hR⟩;rw[hp]at hR;obtain⟨vr,rfl,hown⟩:=hR;obtain⟨q,cap,rfl,hcap,hsx⟩:=oVA hown;have HC:=Lib.hid (fun τ d=>aYA (w0:=re w3 τ d) T (q:=q) (cap:=cap) cs ds hok hn hcap hsx hw (hE.under ((HU0.out.trans hU3).re τ d)) (hS.under ((HU0.out.trans hU3).re τ d)) (hcs.under ((HU0.out.trans hU3).re τ d)) (hds.under ((HU0.out.trans hU3).re τ d)) hcn hdn);have HU3:=Lib.hid (HU0.out.trans hU3);have HB3:=Lib.hid (HB0.out.under hU3);clear hU3 hown hsx hcap;refine fT zD 2 7 0 (by decide) fun τ d=>?_
  simp only[List.drop_succ_cons,List.drop_zero,List.take_succ_cons,List.take_zero];walk_nrm;go_wp2;refine uZ zD ?_;simp only[Exit.then];refine yBA ?_ τ d;refine nC zD fun τ d=>?_
  have n0:(re w3 τ d).cell? ⟨W.heap.size,0,none⟩=some (.slice p1 cs.length d1):=HB3.out.cell 0;have n1:(re w3 τ d).cell? ⟨W.heap.size,1,none⟩=some (.slice p2 ds.length d2):=HB3.out.cell 1;have nl:W.heap.size < (re w3 τ d).heap.size:=HB3.out.lt;go_wp2_with fail;refine(HC.out τ d).mono ?_;rintro e w4 hO;obtain⟨v,rfl,hP⟩:=hO.post (HU3.out.re τ d);have hv:∃ a b c,v = .tuple #[a,b,c]:=by
   obtain⟨_,h2⟩:=hP
   split at h2
   · obtain⟨u,e,_⟩:=h2;exact⟨_,_,_,e⟩
   · exact⟨_,_,_,h2⟩
  obtain⟨a,b,c,rfl⟩:=hv;have HP:=Lib.hid hP;clear hO hP;go_wp2;exact nY rfl rfl HP.out
theorem uBA{p:UInt8→Bool}(h:(List.range 256).all (fun n=>p n.toUInt8)=true)(c:UInt8):p c=true:=by
 have:=List.all_eq_true.1 h c.toNat (List.mem_range.2 c.toNat_lt);have e:c.toNat.toUInt8=c:=by simp
 rwa [e]at this
def mV(c:UInt8):Bool:=inB [9,10,13,32] c
theorem wNA(c:UInt8)(h:mV c=true):oK c=false:=by
 have:=uBA (p:=fun c => !mV c || !oK c) (by decide +kernel) c
 simpa [h] using this
theorem pPA(c:UInt8)(h:oK c=true):mV c=false:=by
 have:=uBA (p:=fun c => !mV c || !oK c) (by decide +kernel) c
 simpa [h] using this
theorem mPA(c:UInt8)(h:oK c=true):First 0 c:=⟨by decide,h,fun j hj=>absurd hj (by omega)⟩
theorem xLA(c:UInt8)(h:mV c=true):First 1 c:=⟨by decide,h,fun j hj=>by
  obtain rfl:j=0:=by omega
  exact wNA c h⟩
theorem sNA:First 2 40:=⟨by decide,by decide,by decide⟩
theorem mMA:First 3 41:=⟨by decide,by decide,by decide⟩
theorem jAA (p : UInt8 → Bool) : ∀ (l r : List UInt8), (∀ c ∈ l, p c = true) → (∀ c, r.head? = some c → p c = false) → many p (l ++ r) = l.length
  | [], r, _, hr => by
    cases r with
    | nil=>rfl
    | cons c r=>simp[many,hr c rfl]
  | c :: l, r, hl, hr => by
    have:=jAA p l r (fun x hx=>hl x (List.mem_cons_of_mem _ hx)) hr;simp only[many,List.cons_append,List.takeWhile_cons,hl c List.mem_cons_self,if_true,List.length_cons]at this ⊢;omega
def vBA(t:PTok):Tok:=⟨t.kind,t.pos.toNat,t.text⟩
def noW(r:List UInt8):Prop:=∀ c,r.head? = some c→oK c=false
section
variable {s : ByteArray}
theorem lW{k:Nat}{c:UInt8}{l:List UInt8}(hd:s.data.toList.drop k=c::l):∃ hlt:k < s.size,s[k]'hlt=c:=by
 have hlen:(s.data.toList.drop k).length=s.size - k:=by rw[List.length_drop];rfl
 have hlen2:=congrArg List.length hd;rw[hlen,List.length_cons]at hlen2;have hlt:k < s.size:=by omega
 refine⟨hlt,?_⟩;have:(s.data.toList.drop k).head? = some c:=by rw[hd];rfl
 rw[List.head?_drop]at this;have e:s.data.toList[k]? = some (s[k]'hlt):=by
  rw[List.getElem?_eq_getElem (by exact hlt)];rfl
 rw[e]at this;exact Option.some.inj this
theorem kZ{k:Nat}{a r:List UInt8}(hd:s.data.toList.drop k=a++r):s.data.toList.drop (k+a.length)=r:=by
 rw[← List.drop_drop,hd,List.drop_left]
theorem dM{k:Nat}{a r:List UInt8}(hd:s.data.toList.drop k=a++r)(hk:k≤s.size):k+a.length≤s.size:=by
 have hlen:(s.data.toList.drop k).length=s.size - k:=by rw[List.length_drop];rfl
 have hlen2:=congrArg List.length hd;rw[hlen,List.length_append]at hlen2;omega
theorem wS{k:Nat}{a r:List UInt8}(hd:s.data.toList.drop k=a++r):s.extract k (k+a.length)=⟨a.toArray⟩:=by
 apply ByteArray.ext;apply Array.ext';rw[ByteArray.data_extract,Array.toList_extract,List.extract_eq_take_drop,hd,Nat.add_sub_cancel_left,List.take_left]
theorem bMA{k:Nat}{acts:List SAct}(l r:List UInt8)(hd:s.data.toList.drop k=l++r)(hk:k≤s.size)(hl:∀ c∈l,mV c=true)(hr:∀ c,r.head? = some c→mV c=false)(h:Scans s (k+l.length) acts) :
 ∃ acts',Scans s k acts'∧sends acts'=sends acts:=by
 cases l with
 | nil=>exact⟨acts,by simpa using h,rfl⟩
 | cons c l =>
   obtain⟨hlt,hc⟩:=lW hd;have hsz:=dM hd hk;have hm:goN 1 (s.data.toList.drop k)=(c::l).length:=by rw[hd];exact jAA _ _ _ hl hr
   exact⟨_,.blank hlt (by rw[hc];exact xLA c (hl c List.mem_cons_self)) rfl hm hsz h,rfl⟩
theorem qOA{k:Nat}{acts:List SAct}(x:ByteArray)(r:List UInt8)(hd:s.data.toList.drop k=x.data.toList++r)(hk:k≤s.size)(hne:x.size≠0)(hl:∀ c∈x.data.toList,oK c=true)(hr:noW r)(h:Scans s (k+x.data.toList.length) acts) :
 ∃ acts',Scans s k acts'∧sends acts'=lQ ⟨1,k,x⟩::sends acts:=by
 have hsz:=dM hd hk;have hex:=wS hd;have hex2:s.extract k (k+x.data.toList.length)=x:=by rw[hex]
 cases hx:x.data.toList with
 | nil =>
   have:x.data.toList.length=x.size:=by rw[Array.length_toList];rfl
   rw[hx]at this;exact absurd this.symm hne
 | cons c l =>
   have hd':=hd;rw[hx,List.cons_append]at hd';obtain⟨hlt,hc⟩:=lW hd';have hm:goN 0 (s.data.toList.drop k)=x.data.toList.length:=by rw[hd];exact jAA _ _ _ hl hr
   refine⟨_,.token hlt (by rw[hc];exact mPA c (hl c (by rw[hx];exact List.mem_cons_self))) rfl hm hsz h,?_⟩;rw[hex2];rfl
theorem vTA{k:Nat}{acts:List SAct}(r:List UInt8)(hd:s.data.toList.drop k=40::r)(h:Scans s (k+1) acts):∃ acts',Scans s k acts'∧sends acts'=lQ ⟨2,k,⟨#[40]⟩⟩::sends acts:=by
 obtain⟨hlt,hc⟩:=lW hd;have hex:=wS (s:=s) (a:=[40]) (r:=r) hd;refine⟨_,.token (i:=2) (m:=1) hlt (by rw[hc];exact sNA) (by decide) rfl (by omega) h,?_⟩;rw[show s.extract k (k+1)=⟨#[40]⟩ from hex];rfl
theorem vSA{k:Nat}{acts:List SAct}(r:List UInt8)(hd:s.data.toList.drop k=41::r)(h:Scans s (k+1) acts):∃ acts',Scans s k acts'∧sends acts'=lQ ⟨3,k,⟨#[41]⟩⟩::sends acts:=by
 obtain⟨hlt,hc⟩:=lW hd;have hex:=wS (s:=s) (a:=[41]) (r:=r) hd;refine⟨_,.token (i:=3) (m:=1) hlt (by rw[hc];exact mMA) (by decide) rfl (by omega) h,?_⟩;rw[show s.extract k (k+1)=⟨#[41]⟩ from hex];rfl
theorem jYA{p:UInt8→Bool}(hp:∀ c,p c=true→oK c=true)(x:SX)(h:okX p x)(r:List UInt8):∀ c,(xC x++r).head? = some c→mV c=false:=by
 intro c hc
 cases x with
 | w s =>
   unfold okX at h;unfold xC at hc
   cases hs:s.data.toList with
   | nil =>
     have:s.data.toList.length=s.size:=by rw[Array.length_toList];rfl
     rw[hs]at this;exact absurd this.symm h.1
   | cons a l =>
     rw[hs]at hc h;obtain rfl:a=c:=by simpa using hc
     exact pPA _ (hp _ (h.2 _ List.mem_cons_self))
 | l xs =>
   unfold xC at hc;obtain rfl:(40:UInt8)=c:=by simpa using hc
   decide
def zSA(s:ByteArray)(x:SX):Prop:=∀(k:Nat) (r:List UInt8) (acts:List SAct),s.data.toList.drop k=xC x++r→noW r→k≤s.size→Scans s (k+(xC x).length) acts→∃ acts',Scans s k acts'∧sends acts'=(iH k x).map (fun t=>lQ (vBA t))++sends acts
theorem qPA(l:List SX){r:List UInt8}(h:noW r):noW (yF l++r):=by
 cases l with
 | nil=>exact h
 | cons a l =>
   intro c hc;unfold yF at hc;obtain rfl:(32:UInt8)=c:=by simpa using hc
   decide
theorem jFA{p:UInt8→Bool}(hp:∀ c,p c=true→oK c=true):∀(l:List SX),aV p l→(∀ a∈l,zSA s a)→∀(k:Nat) (r:List UInt8) (acts:List SAct),s.data.toList.drop k=yF l++r→noW r→k≤s.size→Scans s (k+(yF l).length) acts →
 ∃ acts',Scans s k acts'∧sends acts'=(dK k l).map (fun t=>lQ (vBA t))++sends acts
 | [],_,_,k,r,acts,hd,hr,hk,h=>⟨acts,by simpa [yF] using h,by simp[dK]⟩
 | a :: l, ho, ha, k, r, acts, hd, hr, hk, h => by
   unfold yF at hd h;have hd0:s.data.toList.drop k=[32]++(xC a++(yF l++r)):=by rw[hd];simp
   have hd1 := kZ hd0; have hk1 := dM hd0 hk; have hd2 := kZ hd1; have hk2 := dM hd1 hk1; obtain ⟨a1, h1, g1⟩ := jFA hp l ho.2 (fun b hb => ha b (List.mem_cons_of_mem _ hb)) _ r acts hd2 hr hk2 (by
     rw[show k+[(32:UInt8)].length+(xC a).length+(yF l).length=k+(32::(xC a++yF l)).length by simp;omega];exact h)
   obtain⟨a2,h2,g2⟩:=ha a List.mem_cons_self _ _ a1 hd1 (qPA l hr) hk1 h1;obtain⟨a3,h3,g3⟩:=bMA [32] _ hd0 hk (by intro c hc;rw[List.mem_singleton.1 hc];decide) (jYA hp a ho.1 _) h2;refine⟨a3,h3,?_⟩;rw[g3,g2,g1,dK,List.map_append,List.append_assoc];rfl
theorem hOA{p:UInt8→Bool}(hp:∀ c,p c=true→oK c=true)(x:SX):okX p x→zSA s x:=by
 induction x using SX.rec (motive_2:=fun l=>aV p l→∀ a∈l,zSA s a) with
 | w y =>
   intro h k r acts hd hr hk hs;unfold xC at hd hs;obtain⟨a,h1,g1⟩:=qOA y r hd hk h.1 (fun c hc=>hp c (h.2 c hc)) hr hs;exact⟨a,h1,by rw[g1];simp[iH,vBA]⟩
 | l xs ih =>
   intro h k r acts hd hr hk hs;have hX:=ih h;unfold xC at hd hs;have hd0:s.data.toList.drop k=[40]++(nJ xs++41::r):=by rw[hd];simp
   have hd1:=kZ hd0;have hk1:=dM hd0 hk;have hd2:=kZ hd1;have hk2:=dM hd1 hk1;obtain⟨a1,h1,g1⟩:=vSA r hd2 (by rw[show k+[(40:UInt8)].length+(nJ xs).length+1=k+(40::(nJ xs++[41])).length by simp;omega];exact hs);have hn:noW (41::r):=fun c hc=>by
    obtain rfl:(41:UInt8)=c:=by simpa using hc
    decide
   have mid:∃ acts',Scans s (k+[(40:UInt8)].length) acts'∧sends acts'=(fP (k+1) xs).map (fun t=>lQ (vBA t))++sends a1:=by
    cases xs with
    | nil=>exact⟨a1,by simpa [nJ] using h1,by simp[fP]⟩
    | cons a l =>
      unfold nJ at hd1 h1;rw[List.append_assoc]at hd1;have hd3:=kZ hd1;have hk3:=dM hd1 hk1;obtain⟨a2,h2,g2⟩:=jFA hp l h.2 (fun b hb=>hX b (List.mem_cons_of_mem _ hb)) _ _ a1 hd3 hn hk3 (by rw[List.length_append,← Nat.add_assoc]at h1;exact h1);obtain⟨a3,h3,g3⟩:=hX a List.mem_cons_self _ _ a2 hd1 (qPA l hn) hk1 h2;refine⟨a3,h3,?_⟩;rw[g3,g2,fP,List.map_append,List.append_assoc];rfl
   obtain⟨a2,h2,g2⟩:=mid;obtain⟨a3,h3,g3⟩:=vTA _ hd h2;refine⟨a3,h3,?_⟩;rw[g3,g2,g1,iH,List.map_cons,List.map_append,List.cons_append,List.append_assoc];rfl
 | nil=>rename_i h a ha;cases ha
 | cons a l iha ihl =>
   rename_i h b hb;rcases List.mem_cons.1 hb with rfl | hb
   · exact iha h.1
   · exact ihl h.2 b hb
end
theorem eFA : ∀ (l : List SX), (∀ a ∈ l, ∀ k, ∀ t ∈ iH k a, (vBA t).p = t ∧ (t.kind = 1 ∨ t.kind = 2 ∨ t.kind = 3)) → ∀ k, ∀ t ∈ dK k l, (vBA t).p = t ∧ (t.kind = 1 ∨ t.kind = 2 ∨ t.kind = 3)
  | [],_,k,t,ht=>by simp[dK]at ht
  | a :: l, h, k, t, ht => by
    unfold dK at ht;rcases List.mem_append.1 ht with ht | ht
    · exact h a List.mem_cons_self _ t ht
    · exact eFA l (fun b hb=>h b (List.mem_cons_of_mem _ hb)) _ t ht
theorem mIA(x:SX):∀ k,∀ t∈iH k x,(vBA t).p=t∧(t.kind=1∨t.kind=2∨t.kind=3):=by
 induction x using SX.rec (motive_2:=fun l=>∀ a∈l,∀ k,∀ t∈iH k a,(vBA t).p=t∧(t.kind=1∨t.kind=2∨t.kind=3)) with
 | w s =>
   intro k t ht;unfold iH at ht;rw[List.mem_singleton.1 ht];exact⟨rfl,.inl rfl⟩
 | l xs ih =>
   intro k t ht;unfold iH at ht;rcases List.mem_cons.1 ht with rfl | ht
   · exact⟨rfl,.inr (.inl rfl)⟩
   rcases List.mem_append.1 ht with ht | ht
   · cases xs with
     | nil=>simp[fP]at ht
     | cons a l =>
       unfold fP at ht;rcases List.mem_append.1 ht with ht | ht
       · exact ih a List.mem_cons_self _ t ht
       · exact eFA l (fun b hb=>ih b (List.mem_cons_of_mem _ hb)) _ t ht
   · rw[List.mem_singleton.1 ht];exact⟨rfl,.inr (.inr rfl)⟩
 | nil=>rename_i a ha k t ht;cases ha
 | cons a l iha ihl =>
   rename_i b hb k t ht;rcases List.mem_cons.1 hb with rfl | hb
   · exact iha k t ht
   · exact ihl b hb k t ht
theorem eOA{x:SX}(h:okX oK x)(hn:(xC x).length≤20000):Lexes ⟨(xC x).toArray⟩ ((iH 0 x).map vBA):=by
 have hsz:(⟨(xC x).toArray⟩:ByteArray).size=(xC x).length:=by simp[ByteArray.size]
 obtain⟨acts,h1,h2⟩:=hOA (s:=⟨(xC x).toArray⟩) (fun c hc=>hc) x h 0 [] [] (by simp) (fun c hc=>by cases hc) (Nat.zero_le _) (by rw[Nat.zero_add,← hsz];exact .done);have hl:(iH 0 x).length≤(xC x).length:=j4A x h 0;refine⟨by rw[hsz];exact hn,⟨acts,h1,?_⟩,by rw[List.length_map];omega⟩;rw[h2];simp[sends]
theorem tOA{x:SX}(h:okX oK x)(hn:(xC x).length≤20000)(hd:aO x≤60):Lexes ⟨(xC x).toArray⟩ ((iH 0 x).map vBA)∧(∀ t∈(iH 0 x).map vBA,t.kind=1∨t.kind=2∨t.kind=3)∧eF (((iH 0 x).map vBA).map Tok.p) [] [] ⟨0,0,⟨#[]⟩⟩ = .ok (jB (nL 0 x)):=by
 refine⟨eOA h hn,fun t ht=>?_,?_⟩
 · obtain⟨u,hu,rfl⟩:=List.mem_map.1 ht;exact(mIA x 0 u hu).2
 · have e : ((iH 0 x).map vBA).map Tok.p = iH 0 x := by
     rw[List.map_map]
     conv=>rhs;rw[← List.map_id (iH 0 x)]
     exact List.map_congr_left fun t ht=>(mIA x 0 t ht).1
   rw[e];exact aSA x hd 0
end Go.Proofs.YtlnlpdephijcoaaGreatDoor
