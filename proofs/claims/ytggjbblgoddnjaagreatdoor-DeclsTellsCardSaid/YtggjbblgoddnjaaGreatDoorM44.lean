/- Part 44 of what the proof rests on. -/
import Derived.Test.YtggjbblgoddnjaaGreatDoorM14
import Derived.Test.YtggjbblgoddnjaaGreatDoorM21
import Derived.Test.YtggjbblgoddnjaaGreatDoorM43
set_option linter.unusedSimpArgs false
set_option linter.unusedVariables false
set_option maxRecDepth 100000
set_option maxHeartbeats 1000000
namespace Go.Proofs.YtggjbblgoddnjaaGreatDoor
open Go.Conc Go.Lx Go.RowKit
def Tok.p(t:Tok):PTok:=⟨t.kind,t.at_,t.text⟩
theorem qJA(all:List Tok):∀ k t,all[k]? = some t→(fH all)[k * 3]? = some (.int .i64 t.kind)∧(fH all)[k * 3+1]? = some (.int .i64 (t.at_:Int))∧(fH all)[k * 3+2]? = some (.string t.text):=by
 induction all with
 | nil=>intro k t h;simp at h
 | cons x l ih =>
   intro k t h
   cases k with
   | zero=>cases h;exact⟨rfl,rfl,rfl⟩
   | succ k =>
     have:=ih k t h;rw[show(k+1) * 3=k * 3+1+1+1 by omega,show k * 3+1+1+1+1=(k * 3+1)+1+1+1 by omega,show k * 3+1+1+1+2=(k * 3+2)+1+1+1 by omega];exact this
def ReadPost(W:World)(R:Except (Int×Int) (List Sx))(v:Value)(w:World):Prop :=
 Under W w∧match R with
  | .ok row=>∃ vr,v = .tuple #[vr,.int .i64 0,.int .i64 0]∧w.ownsRow W.heap.size 28 3 vr row.length (nD row)
  | .error (p,c)=>v = .tuple #[.slice none 0 0,.int .i64 p,.int .i64 c]
theorem a2A{w:World}{base:Nat}{e:TypeId}{size n:Nat}{v:Value}{xs:List Value}(h:w.ownsRow base e size v n xs)(τ:Nat→Question→Nat)(d:Nat):(re w τ d).ownsRow base e size v n xs:=h
theorem ReadPost.re{W:World}{R:Except (Int×Int) (List Sx)}(v:Value)(w:World)(τ:Nat→Question→Nat)(d:Nat)(h:ReadPost W R v w):ReadPost W R v (re w τ d):=by
 obtain⟨h1,h2⟩:=h;refine⟨h1.re τ d,?_⟩
 cases R with
 | error p=>exact h2
 | ok row=>obtain⟨vr,e,h3⟩:=h2;exact⟨vr,e,a2A h3 τ d⟩
theorem eZA{W w:World}{l:Value}{all:List Tok}(h:w.ownsRow W.heap.size 197 3 l all.length (fH all)):∃ p cap,l = .slice p all.length cap∧xOA w p (all.map Tok.p):=by
 rcases h.2 with⟨rfl,h0⟩ | ⟨g,cap,cur,rfl,hb,hg,rest⟩
 · refine⟨none,0,by rw[h0],fun hne=>?_⟩;have:all=[]:=List.length_eq_zero_iff.1 h0;subst this;exact absurd rfl hne
 · refine⟨_,cap,rfl,fun _=>⟨g,0,rfl,(Array.getElem?_eq_some_iff.1 hg).1,fun k t ht=>?_⟩⟩;rw[List.getElem?_map]at ht;obtain⟨u,hu,rfl⟩:=Option.map_eq_some_iff.1 ht;obtain⟨h1,h2,h3⟩:=qJA all k u hu;rw[Nat.zero_add];exact⟨yD h rfl h1,yD h rfl h2,yD h rfl h3⟩
theorem lV{P:Program}{fn:Func}{t u r:Tmp}{Post:Value→World→Prop}{a:Act}{w:World}(h:fn.results=#[.tmp t,.tmp u,.tmp r])(hd:a.defers=[])(hp:Post (.tuple #[a.tmps.getD t undef,a.tmps.getD u undef,a.tmps.getD r undef]) w):bP P fn Post .ret a w :=
 ⟨hd,_,fun _ _=>results_tmp3 h _ P _,hp⟩
theorem sOA{s:ByteArray}{all:List Tok}(h:Lexes s all)(hk:∀ t∈all,t.kind=1∨t.kind=2∨t.kind=3)(W:World) :
 CallsG Tryz.prog 65 #[.string s] W (ReadPost W (bF (all.map Tok.p) [] [] ⟨0,0,⟨#[]⟩⟩)):=by
 refine nI lC Tryz.func65 rfl ?_ ReadPost.re;simp only[Tryz.ntmps65,List.size_toArray,List.length_cons,List.length_nil,Nat.reduceAdd,Nat.reduceSub,Array.replicate_succ,Array.replicate_zero,List.push_toArray,List.append_toArray,List.nil_append,List.cons_append];refine fG lC (vD lC fun τ d=>?_);go_wp2;refine jI ?_ τ d;refine fG lC ?_;refine yS lC 1 (by decide) fun τ d=>?_
 simp only[List.take_succ_cons,List.take_zero];go_wp2;refine bQA ?_ τ d;refine qH (i:=1) (rest:=List.range' 2 7) lC rfl (by rfl) (sF (vs:=#[.string s]) rfl Tryz.func101 (by kernel_rfl) rfl (by simp[Act.eval])) (h.calls W) ?_;rintro v w1 ⟨l,rfl,hown,hU1⟩;obtain⟨p,cap,rfl,hp⟩:=eZA hown;have hlen:(all.map Tok.p).length≤1000000:=by rw[List.length_map];exact h.len
 have hkk:∀ t∈all.map Tok.p,t.kind=1∨t.kind=2∨t.kind=3:=by
  intro t ht;obtain⟨u,hu,rfl⟩:=List.mem_map.1 ht;exact hk u hu
 have hc:=fun τ d=>cTA (w0:=re w1 τ d) (cap:=cap) (all.map Tok.p) hlen hp hkk
 simp only[List.length_map]at hc;have HC:=Lib.hid hc;clear hc;clear hown hp hkk hlen hk h;generalize bF (all.map Tok.p) [] [] ⟨0,0,⟨#[]⟩⟩=R at *;refine jE lC 2 7 0 (by decide) fun τ d=>?_
 simp only[List.drop_succ_cons,List.drop_zero,List.take_succ_cons,List.take_zero];walk_nrm;go_wp2;refine vF lC ?_;simp only[Exit.then];refine jI ?_ τ d;refine vD lC fun τ d=>?_
 go_wp2_with fail;refine(HC.out τ d).mono ?_;rintro e w2 ⟨hU2,hR⟩;have hUU:Under W w2:=hU1.trans ⟨hU2.os,hU2.output,hU2.size,hU2.low⟩;have hz:W.heap.size≤(re w1 τ d).heap.size:=hU1.size
 cases R with
 | ok row =>
   obtain⟨vr,rfl,ho⟩:=hR;have HO:=Lib.hid ho;clear ho;go_wp2;exact lV rfl rfl ⟨hUU,vr,rfl,mW HO.out hz⟩
 | error pc =>
   obtain⟨p',c⟩:=pc;subst hR;go_wp2;exact lV rfl rfl ⟨hUU,rfl⟩
theorem tFA{p:UInt8→Bool}(h:(List.range 256).all (fun n=>p n.toUInt8)=true)(c:UInt8):p c=true:=by
 have:=List.all_eq_true.1 h c.toNat (List.mem_range.2 c.toNat_lt);have e:c.toNat.toUInt8=c:=by simp
 rwa [e]at this
def dR(c:UInt8):Bool:=inB [9,10,13,32] c
theorem dIA(c:UInt8)(h:dR c=true):sK c=false:=by
 have:=tFA (p:=fun c => !dR c || !sK c) (by decide +kernel) c
 simpa [h] using this
theorem vHA(c:UInt8)(h:sK c=true):dR c=false:=by
 have:=tFA (p:=fun c => !dR c || !sK c) (by decide +kernel) c
 simpa [h] using this
theorem cJA(c:UInt8)(h:sK c=true):First 0 c:=⟨by decide,h,fun j hj=>absurd hj (by omega)⟩
theorem gGA(c:UInt8)(h:dR c=true):First 1 c:=⟨by decide,h,fun j hj=>by
  obtain rfl:j=0:=by omega
  exact dIA c h⟩
theorem wHA:First 2 40:=⟨by decide,by decide,by decide⟩
theorem mJA:First 3 41:=⟨by decide,by decide,by decide⟩
theorem vY (p : UInt8 → Bool) : ∀ (l r : List UInt8), (∀ c ∈ l, p c = true) → (∀ c, r.head? = some c → p c = false) → many p (l ++ r) = l.length
  | [], r, _, hr => by
    cases r with
    | nil=>rfl
    | cons c r=>simp[many,hr c rfl]
  | c :: l, r, hl, hr => by
    have:=vY p l r (fun x hx=>hl x (List.mem_cons_of_mem _ hx)) hr;simp only[many,List.cons_append,List.takeWhile_cons,hl c List.mem_cons_self,if_true,List.length_cons]at this ⊢;omega
def bY(t:PTok):Tok:=⟨t.kind,t.pos.toNat,t.text⟩
def noW(r:List UInt8):Prop:=∀ c,r.head? = some c→sK c=false
section
variable {s : ByteArray}
theorem wS{k:Nat}{c:UInt8}{l:List UInt8}(hd:s.data.toList.drop k=c::l):∃ hlt:k < s.size,s[k]'hlt=c:=by
 have hlen:(s.data.toList.drop k).length=s.size - k:=by rw[List.length_drop];rfl
 have hlen2:=congrArg List.length hd;rw[hlen,List.length_cons]at hlen2;have hlt:k < s.size:=by omega
 refine⟨hlt,?_⟩;have:(s.data.toList.drop k).head? = some c:=by rw[hd];rfl
 rw[List.head?_drop]at this;have e:s.data.toList[k]? = some (s[k]'hlt):=by
  rw[List.getElem?_eq_getElem (by exact hlt)];rfl
 rw[e]at this;exact Option.some.inj this
theorem iW{k:Nat}{a r:List UInt8}(hd:s.data.toList.drop k=a++r):s.data.toList.drop (k+a.length)=r:=by
 rw[← List.drop_drop,hd,List.drop_left]
theorem vJ{k:Nat}{a r:List UInt8}(hd:s.data.toList.drop k=a++r)(hk:k≤s.size):k+a.length≤s.size:=by
 have hlen:(s.data.toList.drop k).length=s.size - k:=by rw[List.length_drop];rfl
 have hlen2:=congrArg List.length hd;rw[hlen,List.length_append]at hlen2;omega
theorem oQ{k:Nat}{a r:List UInt8}(hd:s.data.toList.drop k=a++r):s.extract k (k+a.length)=⟨a.toArray⟩:=by
 apply ByteArray.ext;apply Array.ext';rw[ByteArray.data_extract,Array.toList_extract,List.extract_eq_take_drop,hd,Nat.add_sub_cancel_left,List.take_left]
theorem bHA{k:Nat}{acts:List SAct}(l r:List UInt8)(hd:s.data.toList.drop k=l++r)(hk:k≤s.size)(hl:∀ c∈l,dR c=true)(hr:∀ c,r.head? = some c→dR c=false)(h:Scans s (k+l.length) acts) :
 ∃ acts',Scans s k acts'∧sends acts'=sends acts:=by
 cases l with
 | nil=>exact⟨acts,by simpa using h,rfl⟩
 | cons c l =>
   obtain⟨hlt,hc⟩:=wS hd;have hsz:=vJ hd hk;have hm:goN 1 (s.data.toList.drop k)=(c::l).length:=by rw[hd];exact vY _ _ _ hl hr
   exact⟨_,.blank hlt (by rw[hc];exact gGA c (hl c List.mem_cons_self)) rfl hm hsz h,rfl⟩
theorem gJA{k:Nat}{acts:List SAct}(x:ByteArray)(r:List UInt8)(hd:s.data.toList.drop k=x.data.toList++r)(hk:k≤s.size)(hne:x.size≠0)(hl:∀ c∈x.data.toList,sK c=true)(hr:noW r)(h:Scans s (k+x.data.toList.length) acts) :
 ∃ acts',Scans s k acts'∧sends acts'=vN ⟨1,k,x⟩::sends acts:=by
 have hsz:=vJ hd hk;have hex:=oQ hd;have hex2:s.extract k (k+x.data.toList.length)=x:=by rw[hex]
 cases hx:x.data.toList with
 | nil =>
   have:x.data.toList.length=x.size:=by rw[Array.length_toList];rfl
   rw[hx]at this;exact absurd this.symm hne
 | cons c l =>
   have hd':=hd;rw[hx,List.cons_append]at hd';obtain⟨hlt,hc⟩:=wS hd';have hm:goN 0 (s.data.toList.drop k)=x.data.toList.length:=by rw[hd];exact vY _ _ _ hl hr
   refine⟨_,.token hlt (by rw[hc];exact cJA c (hl c (by rw[hx];exact List.mem_cons_self))) rfl hm hsz h,?_⟩;rw[hex2];rfl
theorem jMA{k:Nat}{acts:List SAct}(r:List UInt8)(hd:s.data.toList.drop k=40::r)(h:Scans s (k+1) acts):∃ acts',Scans s k acts'∧sends acts'=vN ⟨2,k,⟨#[40]⟩⟩::sends acts:=by
 obtain⟨hlt,hc⟩:=wS hd;have hex:=oQ (s:=s) (a:=[40]) (r:=r) hd;refine⟨_,.token (i:=2) (m:=1) hlt (by rw[hc];exact wHA) (by decide) rfl (by omega) h,?_⟩;rw[show s.extract k (k+1)=⟨#[40]⟩ from hex];rfl
theorem dPA{k:Nat}{acts:List SAct}(r:List UInt8)(hd:s.data.toList.drop k=41::r)(h:Scans s (k+1) acts):∃ acts',Scans s k acts'∧sends acts'=vN ⟨3,k,⟨#[41]⟩⟩::sends acts:=by
 obtain⟨hlt,hc⟩:=wS hd;have hex:=oQ (s:=s) (a:=[41]) (r:=r) hd;refine⟨_,.token (i:=3) (m:=1) hlt (by rw[hc];exact mJA) (by decide) rfl (by omega) h,?_⟩;rw[show s.extract k (k+1)=⟨#[41]⟩ from hex];rfl
theorem rRA{p:UInt8→Bool}(hp:∀ c,p c=true→sK c=true)(x:SX)(h:okX p x)(r:List UInt8):∀ c,(pF x++r).head? = some c→dR c=false:=by
 intro c hc
 cases x with
 | w s =>
   unfold okX at h;unfold pF at hc
   cases hs:s.data.toList with
   | nil =>
     have:s.data.toList.length=s.size:=by rw[Array.length_toList];rfl
     rw[hs]at this;exact absurd this.symm h.1
   | cons a l =>
     rw[hs]at hc h;obtain rfl:a=c:=by simpa using hc
     exact vHA _ (hp _ (h.2 _ List.mem_cons_self))
 | l xs =>
   unfold pF at hc;obtain rfl:(40:UInt8)=c:=by simpa using hc
   decide
def zLA(s:ByteArray)(x:SX):Prop:=∀(k:Nat) (r:List UInt8) (acts:List SAct),s.data.toList.drop k=pF x++r→noW r→k≤s.size→Scans s (k+(pF x).length) acts→∃ acts',Scans s k acts'∧sends acts'=(rG k x).map (fun t=>vN (bY t))++sends acts
theorem gLA(l:List SX){r:List UInt8}(h:noW r):noW (dP l++r):=by
 cases l with
 | nil=>exact h
 | cons a l =>
   intro c hc;unfold dP at hc;obtain rfl:(32:UInt8)=c:=by simpa using hc
   decide
theorem dCA{p:UInt8→Bool}(hp:∀ c,p c=true→sK c=true):∀(l:List SX),zRA p l→(∀ a∈l,zLA s a)→∀(k:Nat) (r:List UInt8) (acts:List SAct),s.data.toList.drop k=dP l++r→noW r→k≤s.size→Scans s (k+(dP l).length) acts →
 ∃ acts',Scans s k acts'∧sends acts'=(xI k l).map (fun t=>vN (bY t))++sends acts
 | [],_,_,k,r,acts,hd,hr,hk,h=>⟨acts,by simpa [dP] using h,by simp[xI]⟩
 | a :: l, ho, ha, k, r, acts, hd, hr, hk, h => by
   unfold dP at hd h;have hd0:s.data.toList.drop k=[32]++(pF a++(dP l++r)):=by rw[hd];simp
   have hd1 := iW hd0; have hk1 := vJ hd0 hk; have hd2 := iW hd1; have hk2 := vJ hd1 hk1; obtain ⟨a1, h1, g1⟩ := dCA hp l ho.2 (fun b hb => ha b (List.mem_cons_of_mem _ hb)) _ r acts hd2 hr hk2 (by
     rw[show k+[(32:UInt8)].length+(pF a).length+(dP l).length=k+(32::(pF a++dP l)).length by simp;omega];exact h)
   obtain⟨a2,h2,g2⟩:=ha a List.mem_cons_self _ _ a1 hd1 (gLA l hr) hk1 h1;obtain⟨a3,h3,g3⟩:=bHA [32] _ hd0 hk (by intro c hc;rw[List.mem_singleton.1 hc];decide) (rRA hp a ho.1 _) h2;refine⟨a3,h3,?_⟩;rw[g3,g2,g1,xI,List.map_append,List.append_assoc];rfl
theorem jJA{p:UInt8→Bool}(hp:∀ c,p c=true→sK c=true)(x:SX):okX p x→zLA s x:=by
 induction x using SX.rec (motive_2:=fun l=>zRA p l→∀ a∈l,zLA s a) with
 | w y =>
   intro h k r acts hd hr hk hs;unfold pF at hd hs;obtain⟨a,h1,g1⟩:=gJA y r hd hk h.1 (fun c hc=>hp c (h.2 c hc)) hr hs;exact⟨a,h1,by rw[g1];simp[rG,bY]⟩
 | l xs ih =>
   intro h k r acts hd hr hk hs;have hX:=ih h;unfold pF at hd hs;have hd0:s.data.toList.drop k=[40]++(zK xs++41::r):=by rw[hd];simp
   have hd1:=iW hd0;have hk1:=vJ hd0 hk;have hd2:=iW hd1;have hk2:=vJ hd1 hk1;obtain⟨a1,h1,g1⟩:=dPA r hd2 (by rw[show k+[(40:UInt8)].length+(zK xs).length+1=k+(40::(zK xs++[41])).length by simp;omega];exact hs);have hn:noW (41::r):=fun c hc=>by
    obtain rfl:(41:UInt8)=c:=by simpa using hc
    decide
   have mid:∃ acts',Scans s (k+[(40:UInt8)].length) acts'∧sends acts'=(sM (k+1) xs).map (fun t=>vN (bY t))++sends a1:=by
    cases xs with
    | nil=>exact⟨a1,by simpa [zK] using h1,by simp[sM]⟩
    | cons a l =>
      unfold zK at hd1 h1;rw[List.append_assoc]at hd1;have hd3:=iW hd1;have hk3:=vJ hd1 hk1;obtain⟨a2,h2,g2⟩:=dCA hp l h.2 (fun b hb=>hX b (List.mem_cons_of_mem _ hb)) _ _ a1 hd3 hn hk3 (by rw[List.length_append,← Nat.add_assoc]at h1;exact h1);obtain⟨a3,h3,g3⟩:=hX a List.mem_cons_self _ _ a2 hd1 (gLA l hn) hk1 h2;refine⟨a3,h3,?_⟩;rw[g3,g2,sM,List.map_append,List.append_assoc];rfl
   obtain⟨a2,h2,g2⟩:=mid;obtain⟨a3,h3,g3⟩:=jMA _ hd h2;refine⟨a3,h3,?_⟩;rw[g3,g2,g1,rG,List.map_cons,List.map_append,List.cons_append,List.append_assoc];rfl
 | nil=>rename_i h a ha;cases ha
 | cons a l iha ihl =>
   rename_i h b hb;rcases List.mem_cons.1 hb with rfl | hb
   · exact iha h.1
   · exact ihl h.2 b hb
end
theorem zBA : ∀ (l : List SX), (∀ a ∈ l, ∀ k, ∀ t ∈ rG k a, (bY t).p = t ∧ (t.kind = 1 ∨ t.kind = 2 ∨ t.kind = 3)) → ∀ k, ∀ t ∈ xI k l, (bY t).p = t ∧ (t.kind = 1 ∨ t.kind = 2 ∨ t.kind = 3)
  | [],_,k,t,ht=>by simp[xI]at ht
  | a :: l, h, k, t, ht => by
    unfold xI at ht;rcases List.mem_append.1 ht with ht | ht
    · exact h a List.mem_cons_self _ t ht
    · exact zBA l (fun b hb=>h b (List.mem_cons_of_mem _ hb)) _ t ht
theorem vEA(x:SX):∀ k,∀ t∈rG k x,(bY t).p=t∧(t.kind=1∨t.kind=2∨t.kind=3):=by
 induction x using SX.rec (motive_2:=fun l=>∀ a∈l,∀ k,∀ t∈rG k a,(bY t).p=t∧(t.kind=1∨t.kind=2∨t.kind=3)) with
 | w s =>
   intro k t ht;unfold rG at ht;rw[List.mem_singleton.1 ht];exact⟨rfl,.inl rfl⟩
 | l xs ih =>
   intro k t ht;unfold rG at ht;rcases List.mem_cons.1 ht with rfl | ht
   · exact⟨rfl,.inr (.inl rfl)⟩
   rcases List.mem_append.1 ht with ht | ht
   · cases xs with
     | nil=>simp[sM]at ht
     | cons a l =>
       unfold sM at ht;rcases List.mem_append.1 ht with ht | ht
       · exact ih a List.mem_cons_self _ t ht
       · exact zBA l (fun b hb=>ih b (List.mem_cons_of_mem _ hb)) _ t ht
   · rw[List.mem_singleton.1 ht];exact⟨rfl,.inr (.inr rfl)⟩
 | nil=>rename_i a ha k t ht;cases ha
 | cons a l iha ihl =>
   rename_i b hb k t ht;rcases List.mem_cons.1 hb with rfl | hb
   · exact iha k t ht
   · exact ihl b hb k t ht
theorem iJA{x:SX}(h:okX sK x)(hn:(pF x).length≤20000):Lexes ⟨(pF x).toArray⟩ ((rG 0 x).map bY):=by
 have hsz:(⟨(pF x).toArray⟩:ByteArray).size=(pF x).length:=by simp[ByteArray.size]
 obtain⟨acts,h1,h2⟩:=jJA (s:=⟨(pF x).toArray⟩) (fun c hc=>hc) x h 0 [] [] (by simp) (fun c hc=>by cases hc) (Nat.zero_le _) (by rw[Nat.zero_add,← hsz];exact .done);have hl:(rG 0 x).length≤(pF x).length:=vXA x h 0;refine⟨by rw[hsz];exact hn,⟨acts,h1,?_⟩,by rw[List.length_map];omega⟩;rw[h2];simp[sends]
theorem oIA{x:SX}(h:okX sK x)(hn:(pF x).length≤20000)(hd:cIA x≤60):Lexes ⟨(pF x).toArray⟩ ((rG 0 x).map bY)∧(∀ t∈(rG 0 x).map bY,t.kind=1∨t.kind=2∨t.kind=3)∧bF (((rG 0 x).map bY).map Tok.p) [] [] ⟨0,0,⟨#[]⟩⟩ = .ok (xB (pIA 0 x)):=by
 refine⟨iJA h hn,fun t ht=>?_,?_⟩
 · obtain⟨u,hu,rfl⟩:=List.mem_map.1 ht;exact(vEA x 0 u hu).2
 · have e : ((rG 0 x).map bY).map Tok.p = rG 0 x := by
     rw[List.map_map]
     conv=>rhs;rw[← List.map_id (rG 0 x)]
     exact List.map_congr_left fun t ht=>(vEA x 0 t ht).1
   rw[e];exact gMA x hd 0
def axX:SX:=.l [.w ⟨#[97,120,105,111,109]⟩,.w ⟨#[97]⟩,.w ⟨#[85,110,105,116]⟩]
def AxPost(W:World)(v:Value)(w:World):Prop:=Under W w∧∃ g c,v = .tuple #[.slice (some ⟨g,0,none⟩) 1 c,.int .i64 0,.int .i64 0]∧g < w.heap.size∧w.cell? ⟨g,0,none⟩=some (.int .i64 2)
theorem AxPost.re{W:World}(v:Value)(w:World)(τ:Nat→Question→Nat)(d:Nat)(h:AxPost W v w):AxPost W v (re w τ d):=⟨h.1.re τ d,h.2⟩
theorem fZA:∃ p p1 p2 p3,pIA 0 axX=dI p p1 p2 p3:=⟨_,_,_,_,rfl⟩
theorem hKA(W:World)(hE:StrcAt W)(hS:ShapesAt 3 W):CallsG Tryz.prog 33 #[.string ⟨#[40,97,120,105,111,109,32,97,32,85,110,105,116,41]⟩] W (AxPost W):=by
 obtain⟨h1,h2,h3⟩:=oIA (x:=axX) (by unfold axX;simp[okX,zRA];decide) (by decide) (by decide);rw[show(⟨(pF axX).toArray⟩:ByteArray)=⟨#[40,97,120,105,111,109,32,97,32,85,110,105,116,41]⟩ by decide]at h1;obtain⟨p,p1,p2,p3,hT⟩:=fZA;rw[hT]at h3;refine nI lC Tryz.func33 rfl ?_ AxPost.re;simp only[Tryz.ntmps33,List.size_toArray,List.length_cons,List.length_nil,Nat.reduceAdd,Nat.reduceSub,Array.replicate_succ,Array.replicate_zero,List.push_toArray,List.append_toArray,List.nil_append,List.cons_append];refine fG lC (vD lC fun τ d=>?_);go_wp2;refine jI ?_ τ d;refine fG lC ?_;refine yS lC 1 (by decide) fun τ d=>?_
 simp only[List.take_succ_cons,List.take_zero];go_wp2;refine bQA ?_ τ d;refine qH (i:=1) (rest:=List.range' 2 7) lC rfl (by rfl) (sF (vs:=#[.string ⟨#[40,97,120,105,111,109,32,97,32,85,110,105,116,41]⟩]) rfl Tryz.func65 (by kernel_rfl) rfl (by simp[Act.eval])) (sOA h1 h2 W) ?_;rintro v w3 ⟨hU3,hR⟩;rw[h3]at hR;obtain⟨vr,rfl,hown⟩:=hR;obtain⟨q,cap,rfl,hcap,hsx⟩:=oQA hown;have hf:(xB (dI p p1 p2 p3)).length=4:=rfl;have hIt:sJ (xB (dI p p1 p2 p3))=some [xB (dI p p1 p2 p3)]:=by
  have:=zM (ts:=[dI p p1 p2 p3]) (by simp only[gHA,okS,dI,xK];decide)
  simpa [fC] using this
 have HI:=Lib.hid (fun τ d=>yX (w0:=re w3 τ d) (cap:=cap) (p:=q) (xB (dI p p1 p2 p3)) (by rw[hf];decide) hcap hsx);have HU3:=Lib.hid hU3;rw[hf]at hcap;rw[hf,hIt]at HI;have HES:=Lib.hid (And.intro hE hS);clear hU3 hown hsx hIt hE hS;refine jE lC 2 7 0 (by decide) fun τ d=>?_
 simp only[List.drop_succ_cons,List.drop_zero,List.take_succ_cons,List.take_zero];walk_nrm;go_wp2;refine vF lC ?_;simp only[Exit.then];refine jI ?_ τ d;refine vD lC fun τ d=>?_
 go_wp2_with fail;refine(HI.out τ d).mono ?_;rintro e w4 ⟨hU4,vo,vs,rfl,g1,g2⟩;obtain⟨pq,pc,rfl,hrows⟩:=fIA g1 g2;obtain⟨b,off,rfl,hb,hcs⟩:=hrows (by simp);obtain⟨q0,c0,a0,ac0,aq0⟩:=hcs 0 _ rfl;rw[hf,Nat.add_zero]at a0;rw[hf]at ac0;simp only[List.length_singleton];have HU4:=Lib.hid ((HU3.out.re τ d).trans hU4);have HA:=Lib.hid (And.intro a0 (And.intro hb (And.intro ac0 aq0)));have HRb:=Lib.hid (qA w4 #[.slice none 0 0,.int .i64 0,.int .i64 0] 88);have HFo:=Lib.hid (zNA (w0:=w4.alloc (.cells #[.slice none 0 0,.int .i64 0,.int .i64 0] 88)));clear hU4 g1 g2 hrows hcs a0 ac0 aq0 hb HI HU3;go_wp2_with fail;refine HFo.out.mono ?_;rintro e w6 ⟨rfl,hM,hU6⟩;have hs4:(w4.alloc (.cells #[.slice none 0 0,.int .i64 0,.int .i64 0] 88)).heap.size=w4.heap.size+1:=by simp
 rw[hs4]at hM ⊢;have HM:=Lib.hid hM;clear hs4;have HR6:=Lib.hid (HRb.out.under hU6);have HU6:=Lib.hid (Under.trans (aA (Under.refl w4) (.cells #[.slice none 0 0,.int .i64 0,.int .i64 0] 88)) hU6);have HA6:=Lib.hid ((dA HU6.out HA.out.2.1 off).trans HA.out.1);have HL6:=Lib.hid (Nat.lt_of_lt_of_le HA.out.2.1 HU6.out.size);have HTh:=Lib.hid (wOA HR6.out HM.out HA.out.2.2.1 (HA.out.2.2.2.under HU6.out) (HES.out.1.under (HU4.out.trans HU6.out)) (HES.out.2.under (HU4.out.trans HU6.out)));clear hM hU6 HFo HRb;go_wp2;go_loopw [34] (fun i wr=>(i = .int .i64 0∧w6=wr)∨(i = .int .i64 1∧∃ g c wm,Under w6 wm∧g≠w4.heap.size∧w6.heap.size≤g∧wm.cell? ⟨g,0,none⟩=some (.int .i64 2)∧wr=wm.setCell ⟨w4.heap.size,0,none⟩ (.slice (some ⟨g,0,none⟩) 1 c))) (fun i _=>1 - (intOf i).toNat)
 case atStart=>exact .inl ⟨rfl,rfl⟩
 case round =>
   rcases hrel with⟨rfl,rfl⟩ | ⟨rfl,g,c,wm,hUm,hne,hg,hc,rfl⟩
   · have a0 := HA6.out; have al := HL6.out; go_wp2_with fail; refine HTh.out.mono ?_; rintro e w7 ⟨rfl, g, c, wm, hUm, hne, hg, hc, rfl⟩; have HP := Lib.hid (And.intro hUm (And.intro hne (And.intro hg hc))); clear hUm hne hg hc HTh; go_wp2; go_roundw
     case rel=>exact .inr ⟨rfl,g,c,wm,HP.out.1,HP.out.2.1,HP.out.2.2.1,HP.out.2.2.2,rfl⟩
     case measure=>simp[intOf]
   · have HB:=Lib.hid ((HR6.out.under hUm).set 0 (.slice (some ⟨g,0,none⟩) 1 c));have HUe:=Lib.hid (show Under W (wm.setCell ⟨w4.heap.size,0,none⟩ (.slice (some ⟨g,0,none⟩) 1 c)) from uA (HU4.out.trans (HU6.out.trans hUm)) (HU4.out.size) _ _);have HC:=Lib.hid (show(wm.setCell ⟨w4.heap.size,0,none⟩ (.slice (some ⟨g,0,none⟩) 1 c)).cell? ⟨g,0,none⟩=some (.int .i64 2) by rw[World.cell?_setCell_other _ _ _ _ (by intro h;simp only[Addr.mk.injEq]at h;omega)];exact hc);generalize wm.setCell ⟨w4.heap.size,0,none⟩ (.slice (some ⟨g,0,none⟩) 1 c)=w8 at *;clear hUm hne hg hc;have c0:w8.cell? ⟨w4.heap.size,0,none⟩=some (.slice (some ⟨g,0,none⟩) 1 c):=HB.out.cell 0;have bl:=HB.out.lt;go_wp2;exact lV rfl rfl ⟨HUe.out,g,c,rfl,xS HC.out,HC.out⟩
theorem bO(W:World)(hE:StrcAt W)(hS:ShapesAt 3 W):CallsG Tryz.prog 9 #[] W (TrueU W):=by
 have hR:=hKA W hE hS;refine nI lC Tryz.func9 rfl ?_ TrueU.re;simp only[Tryz.ntmps9,List.size_toArray,List.length_cons,List.length_nil,Nat.reduceAdd,Nat.reduceSub,Array.replicate_succ,Array.replicate_zero,List.push_toArray,List.append_toArray,List.nil_append,List.cons_append];refine fG lC (vD lC fun τ d=>?_);go_wp2;refine jI ?_ τ d;refine fG lC ?_;refine vI lC ?_;refine qH (i:=0) (rest:=List.range' 1 7) lC rfl (by rfl) (sF (vs:=#[.string ⟨#[40,97,120,105,111,109,32,97,32,85,110,105,116,41]⟩]) rfl Tryz.func33 (by kernel_rfl) rfl (by simp[Act.eval])) hR ?_;rintro v w1 ⟨hU1,g,c,rfl,hg,hc⟩;refine jE lC 1 7 0 (by decide) fun τ d=>?_
 simp only[List.drop_succ_cons,List.drop_zero,List.take_succ_cons,List.take_zero];walk_nrm;go_wp2;refine vF lC ?_;simp only[Exit.then];refine jI ?_ τ d;refine vD lC fun τ d=>?_
 have hU1':=Lib.hid (hU1.re τ d);have c0:(re w1 τ d).cell? ⟨g,0,none⟩=some (.int .i64 2):=hc;have gl:g < (re w1 τ d).heap.size:=hg;clear hR hU1 hc hg;go_wp2;exact mH rfl rfl ⟨rfl,hU1'.out⟩
end Go.Proofs.YtggjbblgoddnjaaGreatDoor
