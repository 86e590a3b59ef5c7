/- Part 38 of what the proof rests on. -/
import Derived.Deep.AppendLies
import Derived.Test.YtlnlpdephijcoaaGreatDoorM01
import Derived.Test.YtlnlpdephijcoaaGreatDoorM02
import Derived.Test.YtlnlpdephijcoaaGreatDoorM12
import Derived.Test.YtlnlpdephijcoaaGreatDoorM13
import Derived.Test.YtlnlpdephijcoaaGreatDoorM26
import Derived.Test.YtlnlpdephijcoaaGreatDoorM33
import Derived.Test.YtlnlpdephijcoaaGreatDoorM35
import Derived.Test.YtlnlpdephijcoaaGreatDoorM37
set_option linter.unusedSimpArgs false
set_option linter.unusedVariables false
set_option maxRecDepth 100000
set_option maxHeartbeats 8000000
namespace Go.Proofs.YtlnlpdephijcoaaGreatDoor
open Go.Lx Go.RowKit
def bX(s:ByteArray):Bool:=s.toList==[84,121,112,101]||(s.toList==[112,105]||(s.toList==[112,105,49]||(s.toList==[112,105,50]||(s.toList==[112,105,51]||(s.toList==[115,105,103]||(s.toList==[115,105,103,49]||(s.toList==[115,105,103,50]||(s.toList==[115,105,103,51]||(s.toList==[108,97,109]||(s.toList==[97,112,112]||(s.toList==[112,97,105,114]||(s.toList==[102,115,116]||(s.toList==[115,110,100]||(s.toList==[115,117,99]||(s.toList==[112,114,102]||(s.toList==[114,101,99]||(s.toList==[97,98,111,114,116]||(s.toList==[101,113]||(s.toList==[114,101,102,108]||(s.toList==[99,97,115,116]||(s.toList==[116,114,97,110,115,112]||(s.toList==[113,117,111,116]||(s.toList==[99,108,97,115,115]||(s.toList==[113,101,108,105,109]||(s.toList==[100,97,116,97]||(s.toList==[99,111,110]||(s.toList==[101,108,105,109])))))))))))))))))))))))))))
section
variable {w0 : World}
theorem i0A(s:ByteArray):Calls Tryz.prog 36 #[.string s] w0 fun e w=>∃ k n x,e = .returned (.tuple #[.agg #[.int .i64 k,.int .i64 n,.string x],.bool (bX s)])∧Under w0 w:=by
 have HO:RowKit.Hid (bX s=(s.toList==[84,121,112,101]||(s.toList==[112,105]||(s.toList==[112,105,49]||(s.toList==[112,105,50]||(s.toList==[112,105,51]||(s.toList==[115,105,103]||(s.toList==[115,105,103,49]||(s.toList==[115,105,103,50]||(s.toList==[115,105,103,51]||(s.toList==[108,97,109]||(s.toList==[97,112,112]||(s.toList==[112,97,105,114]||(s.toList==[102,115,116]||(s.toList==[115,110,100]||(s.toList==[115,117,99]||(s.toList==[112,114,102]||(s.toList==[114,101,99]||(s.toList==[97,98,111,114,116]||(s.toList==[101,113]||(s.toList==[114,101,102,108]||(s.toList==[99,97,115,116]||(s.toList==[116,114,97,110,115,112]||(s.toList==[113,117,111,116]||(s.toList==[99,108,97,115,115]||(s.toList==[113,101,108,105,109]||(s.toList==[100,97,116,97]||(s.toList==[99,111,110]||(s.toList==[101,108,105,109]))))))))))))))))))))))))))))):=Lib.hid rfl;generalize bX s=r at *;go_enter Tryz.func36,Tryz.ntmps36;go_wp2
 all_goals
  refine bodyPost_ret ((results_cell_tmp rfl _ _ _).trans (by simp[go_sem];refine⟨?_,by rw[HO.out];simp[*]⟩;first | rfl | exact⟨rfl,rfl,rfl⟩)) rfl ⟨_,_,_,rfl,?_⟩
  first | exact aA (Under.refl _) _ | skip
end
section
variable {w0 : World}
theorem oLA(s:ByteArray):Calls Tryz.prog 14 #[.string s] w0 fun e w=>e = .returned (.bool (bX s||gX s))∧Under w0 w:=by
 have HF:=Lib.hid (fun w=>i0A (w0:=w) s);have HL:=Lib.hid (fun w=>nWA (w0:=w) s);generalize bX s=a at *;generalize gX s=b at *
 cases a
 all_goals cases b
 all_goals
  go_enter Tryz.func14,Tryz.ntmps14;go_wp2_with fail;refine(HF.out _).mono ?_;rintro e w1 ⟨k1,n1,x1,rfl,hU1⟩;have HU1:=Lib.hid hU1;clear hU1;go_wp2_with fail;refine(HL.out _).mono ?_;rintro e w2 ⟨k2,n2,m2,x2,rfl,hU2⟩;have HU2:=Lib.hid ((aA HU1.out _).trans hU2);clear hU2;go_wp2;go_ret;exact⟨rfl,aA HU2.out _⟩
end
def aN (s : ByteArray) : List ByteArray → Bool → List ByteArray
  | [],d=>if d then [] else [s]
  | x::r,d=>if(!d&&Op.bytesLess s.toList x.toList)=true then s::x::aN s r true else x::aN s r d
section
variable {w0 : World}
end
section
variable {w0 : World}
def cMA(ss:List ByteArray)(s:ByteArray):List ByteArray:=if hasB ss s then ss else aN s ss false
end
def vG(x:Nd):Bool:=x.k==1
def qJ(x:Nd):Bool := !(x.k==1) && !(x.s.toList==[])
def aC (p : Nd → Bool) (l : List ByteArray) : List Nd → List ByteArray
  | []=>l
  | x::t=>aC p (if p x then cMA l x.s else l) t
theorem vIA (s : ByteArray) : ∀ (l : List ByteArray) (d : Bool), (aN s l d).length ≤ l.length + 1
  | [],d=>by cases d<;>simp[aN]
  | x :: l, d => by
    unfold aN
    split
    · have:=insGo_lenT s l;simp only[List.length_cons];omega
    · have:=vIA s l d;simp only[List.length_cons];omega
where insGo_lenT (s : ByteArray) : ∀ l : List ByteArray, (aN s l true).length ≤ l.length
  | []=>by simp[aN]
  | x :: l => by
    have:=insGo_lenT s l;simp[aN];exact this
theorem d2A(l:List ByteArray)(s:ByteArray):(cMA l s).length≤l.length+1:=by
 unfold cMA
 split
 · omega
 · exact vIA s l false
section
variable {w0 : World}
end
theorem dAA{a b:ByteArray}(h:a=b):Ending.returned (.string a) = .returned (.string b):=by rw[h]
theorem eY(s:ByteArray):(⟨s.data.toList.toArray⟩:ByteArray)=s:=by cases s;simp
theorem fZ(T:Tm):okT T→∀ u,(inT T u→sJ T u = -1)∧(¬ inT T u→0≤sJ T u):=by
 induction T using Tm.rec (motive_2:=fun l=>jM l→∀ bs u,(oFA l bs u→aI l bs u = -1)∧(¬ oFA l bs u→0≤aI l bs u)) with
 | mk x l ih =>
   rintro⟨hx,_,hls⟩ u;unfold sJ inT;by_cases hk:x.k=0
   · rw [if_pos hk, if_pos hk]; by_cases h : (u : Int) ≤ x.n
     · rw[if_pos h];omega
     · rw[if_neg h];omega
   · rw[if_neg hk,if_neg hk];exact ih hls _ u
 | nil=>rename_i hh bs u;exact⟨fun _=>rfl,fun h=>absurd trivial h⟩
 | cons a l iha ihl =>
   rename_i hh bs u;have h1:=iha hh.1 (u+bs.headD 0);have h2:=ihl hh.2 bs.tail u;have h3:=(iP a hh.1 (u+bs.headD 0)).1;have h4:∀(l:List Tm) (bs:List Nat),jM l→-1≤aI l bs u:=fun l=>by
    induction l with
    | nil=>intro bs _;exact Int.le_refl _
    | cons a l ih=>intro bs h;have:=ih bs.tail h.2;show -1≤max _ _;omega
   have h5:=h4 l bs.tail hh.2
   show(inT a (u+bs.headD 0)∧oFA l bs.tail u→max (sJ a (u+bs.headD 0)) (aI l bs.tail u) = -1)∧(¬(inT a (u+bs.headD 0)∧oFA l bs.tail u)→0≤max (sJ a (u+bs.headD 0)) (aI l bs.tail u))
   refine⟨fun h=>?_,fun h=>?_⟩
   · rw[h1.1 h.1,h2.1 h.2];rfl
   · by_cases ha : inT a (u + bs.headD 0)
     · have := h2.2 fun hl => h ⟨ha, hl⟩
       omega
     · have:=h1.2 ha;omega
theorem lM (p : Nd → Bool) : ∀ (t : List Nd) (l : List ByteArray), (aC p l t).length ≤ l.length + t.length
  | [],l=>Nat.le_refl _
  | x :: t, l => by
    have h:=lM p t (if p x then cMA l x.s else l);have h2:(if p x then cMA l x.s else l).length≤l.length+1:=by
     split
     · exact d2A l x.s
     · omega
    rw[aC,List.length_cons];omega
section
variable {w0 : World}
theorem xSA(t:List Nd){v va:Value}(hn:t.length≤maxLen)(hv:TermV w0 v t)(h:vB t≠0):Calls Tryz.prog 25 #[v,va] w0 fun e w=>e = .returned (.tuple #[.string ⟨#[]⟩,.int .i64 (vB t)])∧Under w0 w:=by
 have HC:=Lib.hid (lIA t hn hv h);have h':(vB t==0)=false:=by simpa using h
 clear hn hv h;generalize vB t=ce at *;go_enter Tryz.func25,Tryz.ntmps25;go_wp2_with fail;refine HC.out.mono ?_;rintro e w1 ⟨rfl,hU1⟩;have HU1:=Lib.hid hU1;clear hU1;go_wp2;go_ret2;exact⟨rfl,HU1.out⟩
theorem yMA(T:Tm){v va:Value}(hok:okT T)(hd:rC T≤60)(hl:(flat T).length≤4000)(hv:TermV w0 v (flat T))(h:¬ inT T 0):Calls Tryz.prog 25 #[v,va] w0 fun e w=>e = .returned (.tuple #[.string ⟨#[]⟩,.int .i64 30])∧Under w0 w:=by
 have HC:=Lib.hid (oHA T hok hd hl hv);have h':=(fZ T hok 0).2 h;have h'':=(iP T hok 0).2;clear hok hd hl hv h;generalize sJ T 0=ce at *;have h3:(0:Int) < ce+1:=by omega
 go_enter Tryz.func25,Tryz.ntmps25;go_wp2_with fail;refine HC.out.mono ?_;rintro e w1 ⟨rfl,hU1⟩;have HU1:=Lib.hid hU1;clear hU1;go_wp2;go_ret2;exact⟨rfl,HU1.out⟩
end
def TakenIs(ks:lD)(L:List ByteArray):Prop:=∀ s,nH ks s=if rD L s then some (.int .i64 1) else none
theorem oXA{ks:lD}{k:ByteArray}{v:Value}(s:ByteArray)(h:nH ks k=none):nH (ks++[(k,v)]) s=if s=k then some v else nH ks s:=by
 induction ks with
 | nil=>simp[nH]
 | cons p r ih =>
   obtain⟨a,y⟩:=p;simp only[nH,List.cons_append]at h ⊢
   split at h
   · cases h
   · rename_i hk; rw [ih h]; by_cases h1 : s = k
     · subst h1;rw[if_neg hk];simp
     · rw[if_neg h1,if_neg h1]
theorem dLA{ks:lD}{k:ByteArray}(h:nH ks k=none)(i:Nat):wK ks k i=none:=by
 have:=sBA ks k i;rw[h]at this
 cases hm:wK ks k i with
 | none=>rfl
 | some r=>rw[hm]at this;cases this
theorem TakenIs.snoc{ks:lD}{L:List ByteArray}{k:ByteArray}(h:TakenIs ks L)(hn:rD L k=false):TakenIs (ks++[(k,.int .i64 1)]) (L++[k]):=by
 intro s;have h0:nH ks k=none:=by rw[h k,hn];rfl
 rw[oXA s h0,h s,mHA];by_cases e:s=k
 · subst e;simp[rD]
 · have : rD [k] s = false := by
     unfold rD;simp only[List.any_cons,List.any_nil,Bool.or_false];simp;intro e';rw[ByteArray.toList_eq,ByteArray.toList_eq]at e';apply e;obtain⟨⟨a⟩⟩:=s;obtain⟨⟨b⟩⟩:=k;simp only at e';rw[e']
   rw[if_neg e,this];simp
structure PrS (W0:World) (pb hb tb:Nat) (ks:lD) (st:List ByteArray) (sv:Value) (w:World):Prop where
 box:BoxAt w pb 93 #[.map (some hb),.map (some tb),sv]
 heads:MapIAt w hb vE
 taken:MapAt w tb ks
 row:w.ownsRow W0.heap.size 9 1 sv st.length (st.map .string)
 und:Under W0 w
 lo:W0.heap.size≤pb∧W0.heap.size≤tb∧W0.heap.size≤hb
def PrC(pb tb:Nat)(sv:Value)(b:Nat):Prop:=b=pb∨b=tb∨sv.ownBlock=some b
theorem cPA{w:World}{hb tb:Nat}{ks:lD}(h:MapIAt w hb vE)(k:MapAt w tb ks):hb≠tb:=by
 rintro rfl;obtain⟨es,c,h1,h2⟩:=h;obtain⟨es',c',k1,k2⟩:=k;rw[h1]at k1
 cases k1;rw[h2]at k2
 cases ks with
 | nil=>simp[vE]at k2
 | cons p r=>simp[vE]at k2
theorem fCA{w:World}{hb b:Nat}{l:vK}{t:TypeId}{cs:Array Value}(h:MapIAt w hb l)(k:BoxAt w b t cs):hb≠b:=by
 rintro rfl;obtain⟨es,c,h1,h2⟩:=h;unfold BoxAt at k;rw[h1]at k
 cases k
theorem jV{w:World}{b:Nat}{e:TypeId}{l:vK}{base s n:Nat}{v:Value}{xs:List Value}(h:MapIAt w b l)(k:w.ownsRow base e s v n xs):v.ownBlock≠some b:=by
 obtain⟨es,cl,hb,_⟩:=h;rcases k.2 with⟨rfl,_⟩ | ⟨g,cap,cur,rfl,_,hg,_⟩
 · simp[Value.ownBlock]
 · intro e0; obtain rfl : g = b := by simpa [Value.ownBlock] using e0
   rw[hb]at hg
   cases hg
section
variable {W0 w0 w : World} {pb hb tb : Nat} {ks : lD} {st av : List ByteArray} {sv : Value}
theorem PrS.pb_tb(h:PrS W0 pb hb tb ks st sv w):pb≠tb:=by
 intro e;obtain⟨es,cl,hb,_⟩:=h.taken;have:=h.box;unfold BoxAt at this;rw[e,hb]at this
 cases this
theorem PrS.hb_tb(h:PrS W0 pb hb tb ks st sv w):hb≠tb:=cPA h.heads h.taken
theorem PrS.hb_pb(h:PrS W0 pb hb tb ks st sv w):hb≠pb:=fCA h.heads h.box
theorem PrS.sv_pb(h:PrS W0 pb hb tb ks st sv w):sv.ownBlock≠some pb:=jC h.box h.row (by decide)
theorem PrS.sv_tb(h:PrS W0 pb hb tb ks st sv w):sv.ownBlock≠some tb:=nI h.taken h.row
theorem PrS.sv_hb(h:PrS W0 pb hb tb ks st sv w):sv.ownBlock≠some hb:=jV h.heads h.row
theorem PrS.low(h:PrS W0 pb hb tb ks st sv w):∀ b,PrC pb tb sv b→W0.heap.size≤b:=fun b hb=>by
 rcases hb with rfl | rfl | hb
 · exact h.lo.1
 · exact h.lo.2.1
 · exact(iC h.row hb).1
theorem PrS.under{w':World}(h:PrS W0 pb hb tb ks st sv w)(hU:Under w w'):PrS W0 pb hb tb ks st sv w' :=
 ⟨h.box.under hU,h.heads.same (hU.low _ h.heads.lt),h.taken.under hU,uA h.row hU,h.und.trans hU,h.lo⟩
def wCB(w0:World)(d0 top:Nat)(v:Value)(wr:World):Prop:=∃ k:Nat,d0≤k∧k≤top∧v = .int .i64 (k:Int)∧Under w0 wr
theorem e6A {f : Nat} {lb : Array Value} {C : Nat → Prop} {R : Option Nat → World → Prop} (hW : Pow10 W0) (hP : PrS W0 pb hb tb ks st sv w0) (hT : TakenIs ks (av ++ st)) (hs : st.length ≤ 100000) (ha : av.length ≤ 100000)
    (hf:∀ args w,(callFunc f args).run Tryz.prog w = .ok (.enter f args) w) (hRs:∀ o a b,R o a→Ch (fun i=>i=pb∨i=tb) a b→R o b)
    (hdo : ∀ nm, nm = bC (oD (av ++ st) st.length) → ∀ w1 sv1, Ch (PrC pb tb sv) w0 w1 → (∀ b, b < w0.heap.size → sv1.ownBlock = some b → sv.ownBlock = some b) → PrS W0 pb hb tb (ks ++ [(nm, .int .i64 1)]) (st ++ [nm]) sv1 w1 →
      Calls Tryz.prog f (#[.string nm]++lb) w1 fun e w2=>(∃ v,e = .returned v)∧∃ sv2,PrS W0 pb hb tb (ks++[(nm,.int .i64 1)]) (st++[nm]) sv2 w2∧Ch (fun b=>PrC pb tb sv1 b∨C b) w1 w2∧(∀ b,b < w1.heap.size→sv2.ownBlock=some b→sv1.ownBlock=some b)∧R sv2.ownBlock w2) :
    Calls Tryz.prog 84 #[.pointer (some ⟨pb,0,none⟩),.func (.func f) #[] lb] w0 fun e w=>(∃ v,e = .returned v)∧∃ sv3,PrS W0 pb hb tb ks st sv3 w∧Ch (fun b=>PrC pb tb sv b∨C b) w0 w∧(∀ b,b < w0.heap.size→sv3.ownBlock=some b→sv.ownBlock=some b)∧R sv3.ownBlock w:=by
  obtain⟨i0,hi,hz0,hz1,hz2⟩:=info_parts Tryz.infoStrZ;have HN:=Lib.hid (fun(w:World) (k:Nat) (hk:k≤10000000) (h:Under w0 w)=>uJA (w0:=w) (k:Int) (by omega) (by omega) ((hW.under hP.und).under h));simp only[xZA]at HN;obtain⟨g1,g2,g3,g4⟩:=qI (av++st) st.length;have hlen:(av++st).length=av.length+st.length:=by simp
  have HE:=Lib.hid (fun k (h1:st.length≤k) h2 h3=>kZA (ss:=av++st) (d:=st.length) (k:=k) h1 h2 h3);have G3:=Lib.hid g3;have G4:=Lib.hid g4;have htop:oD (av++st) st.length≤400000:=by omega
  have HD:=Lib.hid (hdo _ rfl);clear g2 g3 g4 hlen ha hdo;generalize hF:oD (av++st) st.length=F at *;clear hF;have HP:=Lib.hid hP;have HT:=Lib.hid hT;have HRs:=Lib.hid hRs;have hd:=hP.box.lt;have c2:=hP.box.cell 2;obtain⟨qs,ds,rfl,_,_⟩:=RowArg.of_own hP.row;have hz:(zeroValue 3).run Tryz.prog=fun w=>.ok (.int .i64 0) w:=by funext w;kernel_rfl
  clear hP hT hRs hW;go_enter Tryz.func84,Tryz.ntmps84;go_wp2;go_loopw [4] (fun v wr=>wCB w0 st.length F v wr) (fun v _=>F - (intOf v).toNat)
  case atStart=>exact⟨st.length,Nat.le_refl _,g1,rfl,Under.refl _⟩
  case round =>
    obtain⟨k,hk1,hk2,rfl,hU⟩:=hrel;have hk0:(0:Int)≤k:=Int.natCast_nonneg _;have HU:=Lib.hid hU;have HPk:=Lib.hid (HP.out.under hU);have HNk:=Lib.hid (fun w h=>HN.out w k (by omega) h);have d1:wr.cell? ⟨pb,1,none⟩=some (.map (some tb)):=HPk.out.box.cell 1;have dl:=HPk.out.box.lt;have dm:=HPk.out.taken;have HLk:∀ w',MapAt w' tb ks→(Instr.lookup 91 (.map (some tb)) (.string (bC k)) false).run Tryz.prog w' = .ok ((nH ks (bC k)).getD (.int .i64 0)) w':=fun w' h=>(h.lookup Tryz.underlying91 Tryz.underlying9 (by rw[hz])).2
    clear hU;have tt:wr.drew.cell? ⟨pb,1,none⟩=some (.map (some tb))∧MapAt wr.drew tb ks:=⟨d1,dm⟩
    cases hk:rD (av++st) (bC k)
    · rw [HT.out, hk] at HLk; simp only [Bool.false_eq_true, if_false, Option.getD_none] at HLk; obtain rfl : k = F := by
       rcases Nat.lt_or_ge k F with h | h
       · have := G4.out k hk1 h; rw [hk] at this
         cases this
       · omega
      have HK := Lib.hid hk; clear hk; go_wp2_with fail; go_region_held3 (fun w' => w'.cell? ⟨pb, 1, none⟩ = some (.map (some tb)) ∧ MapAt w' tb ks)
        (first
          | go_keep
          | exact tt
          | (refine ⟨?_, ?_⟩
             · (rw[jA hU4 dl];assumption)
             · exact MapAt.under (by assumption) hU4))
        ((go_simp;go_at_call 40;refine(HNk.out _ (bA HU.out)).mono ?_;rintro e w4 ⟨rfl,hU4⟩))
      have HU4:=Lib.hid (HU.out.trans ((bA (Under.refl wr)).trans hU4));rename_i hHeld;clear hU4 hHeld tt HLk d1 dl dm HNk;have HP4:=Lib.hid (HP.out.under HU4.out);go_wp2_with fail;refine(HN.out _ k (by omega) HU4.out).mono ?_;rintro e w5 ⟨rfl,hU5⟩;have HU5:=Lib.hid (HU4.out.trans hU5);have HP5:=Lib.hid (HP.out.under HU5.out);clear hU5 HP4;have e1:w5.cell? ⟨pb,1,none⟩=some (.map (some tb)):=HP5.out.box.cell 1;have e2:w5.cell? ⟨pb,2,none⟩=some (.slice qs st.length ds):=HP5.out.box.cell 2;have el:=HP5.out.box.lt;generalize hnm:bC k=nm at *;have hmg:nH ks nm=none:=by rw[HT.out,HK.out];rfl
      have HMg:=Lib.hid hmg;have HMf:=Lib.hid (dLA hmg 0);have HHd:=Lib.hid (HP5.out.heads);have HPt:=Lib.hid HP5.out.pb_tb;have HSp:=Lib.hid HP5.out.sv_pb;have HSt:=Lib.hid HP5.out.sv_tb;have HSh:=Lib.hid HP5.out.sv_hb;have HLo:=Lib.hid HP5.out.lo;have HHt:=Lib.hid HP5.out.hb_tb;have HHp:=Lib.hid HP5.out.hb_pb;have hz5:=HU5.out.size;clear hmg hnm G4 HN HE c2;go_wp2_with (refine uG rfl _ _ _ (Or.inr rfl) Tryz.underlying91 Tryz.underlying9 rfl HP5.out.taken rfl rfl ?_);intro w6 hM6 hT6;rw[zFA HMf.out]at hM6;have hc6:Ch (fun i=>i=tb) w5 w6:=(Ch.refl w5).turned hT6 (fun g e _=>by cases e;rfl);have hB6:=pF HP5.out.box hc6 HPt.out;have hR6:=fK HP5.out.row hc6 (fun g hg e=>by subst e;exact HSt.out hg);have hH6:MapIAt w6 hb vE:=HP5.out.heads.same (hc6.block _ HP5.out.heads.lt HHt.out);have HM6:=Lib.hid hM6;have HC6:=Lib.hid hc6;have HB6:=Lib.hid hB6;have HR6:=Lib.hid hR6;have HH6:=Lib.hid hH6;have e3:w6.cell? ⟨pb,2,none⟩=some (.slice qs st.length ds):=hB6.cell 2;have el6:=hB6.lt;have hz6:=hT6.size;clear hM6 hT6 hc6 hB6 hR6 hH6;go_wp2_with (at_builtin;refine wpList_append_own_at _ rfl _ _ 22 rfl W0.heap.size 9 i0 _ 1 16 Tryz.underlying22 hi hz0 hz1 hz2 rfl (by decide) _ _ _ rfl (HR6.out.alloc _) ⟨w6.heap.size,0,none⟩ 1 1 [.string nm] rfl rfl (cell_one_new _ _ _) (by intro u hu;rw[List.mem_singleton.1 hu];rfl) (by simp only[maxLen];omega) (by omega) (by have:=HP.out.und.size;simp;omega) ?_);intro sv7 w7 hown7 hgr7 _ hat7;have hc7:Ch (fun i=>(Value.slice qs st.length ds).ownBlock=some i) w6 w7:=(Ch.of_under (aA (Under.refl w6) _)).grown hgr7 (fun g e _=>e);have hB7:=pF HB6.out hc7 HSp.out;have hM7:MapAt w7 tb (ks++[(nm,.int .i64 1)]):=HM6.out.same (hc7.block _ HM6.out.lt HSt.out);have hH7:MapIAt w7 hb vE:=HH6.out.same (hc7.block _ HH6.out.lt HSh.out);have hne7:=jC hB7 hown7 (by decide);have hz7:=hc7.size;have e4:=hB7.lt;have e5:=hB7.free 2;have e7:w7.cell? ⟨pb,2,none⟩=some (.slice qs st.length ds):=hB7.cell 2;have hOw:∀ b,b < w0.heap.size→sv7.ownBlock=some b→(Value.slice qs st.length ds).ownBlock=some b:=fun b hb0 e=>by
       rcases hat7 with h | h
       · rw[← h];exact e
       · rw [h] at e; have : (w6.alloc (.cells #[.string nm] 9)).heap.size = w6.heap.size + 1 := by simp
         cases e;simp at *;omega
      have HOw:=Lib.hid hOw;have HC7:=Lib.hid hc7;have HB7:=Lib.hid hB7;have HM7:=Lib.hid hM7;have HH7:=Lib.hid hH7;have HN7:=Lib.hid hne7;have HR7:=Lib.hid hown7;obtain⟨q7,d7,rfl,_,_⟩:=RowArg.of_own hown7;clear hc7 hB7 hM7 hH7 hne7 hown7 hgr7 hat7 hOw;go_wp2_with fail;have hS8:=Ch.set (C:=fun i=>i=pb) (Ch.refl w7) (g:=pb) (fun _=>rfl) 2 (.slice q7 (st.length+1) d7);have hB8:=HB7.out.set 2 (.slice q7 (st.length+1) d7);have hR8:=kK HR7.out HN7.out 2 (.slice q7 (st.length+1) d7);have hM8:MapAt (w7.setCell ⟨pb,2,none⟩ (.slice q7 (st.length+1) d7)) tb (ks++[(nm,.int .i64 1)]):=HM7.out.same (hS8.block _ HM7.out.lt (fun e=>HPt.out e.symm));have hH8:MapIAt (w7.setCell ⟨pb,2,none⟩ (.slice q7 (st.length+1) d7)) hb vE:=HH7.out.same (hS8.block _ HH7.out.lt HHp.out);have hC8:Ch (PrC pb tb (.slice qs st.length ds)) w0 (w7.setCell ⟨pb,2,none⟩ (.slice q7 (st.length+1) d7)) :=
       ((((Ch.of_under HU5.out).trans HC6.out (fun i _ h=>.inr (.inl h))).trans HC7.out (fun i _ h=>.inr (.inr h)))).trans hS8 (fun i _ h=>.inl h)
      have hP8:PrS W0 pb hb tb (ks++[(nm,.int .i64 1)]) (st++[nm]) (.slice q7 (st.length+1) d7) (w7.setCell ⟨pb,2,none⟩ (.slice q7 (st.length+1) d7)) :=
       ⟨hB8,hH8,hM8,by rw[List.length_append,List.map_append];exact hR8,zK HP.out.und hC8 HP.out.low,HLo.out⟩
      have hD:=HD.out _ _ hC8 HOw.out hP8;have HC8:=Lib.hid hC8;have HRe:=Lib.hid (Ch.refl (C:=fun i=>i=pb) (w7.setCell ⟨pb,2,none⟩ (.slice q7 (st.length+1) d7)));generalize w7.setCell ⟨pb,2,none⟩ (.slice q7 (st.length+1) d7)=w8 at *;clear hS8 hB8 hR8 hM8 hH8 hC8 hP8 e1 e2 e3 e4 e5 e7 el el6 HB6 HB7 HM6 HM7 HH6 HH7 HR6 HR7 HC6 HC7 HN7 HSp HSt HSh HHt HHp HHd HP5 HPk;refine hD.mono ?_;clear hD HD;rintro e w9 ⟨⟨v9,rfl⟩,sv9,hP9,hC9,hO9,hR9⟩;obtain⟨g9,d9,rfl,_,_,_,hd9,_⟩:=wC hP9.row (by simp);have HP9:=Lib.hid hP9;have HC9:=Lib.hid hC9;have HO9:=Lib.hid hO9;have HR9:=Lib.hid hR9;have hl9:(st++[nm]).length=st.length+1:=by simp
      rw[hl9]at hd9;have b2:w9.cell? ⟨pb,2,none⟩=some (.slice (some ⟨g9,0,none⟩) (st.length+1) d9):=by rw[← hl9];exact hP9.box.cell 2
      have bl:=hP9.box.lt;have bf:=hP9.box.free 2;have hS9:=hP9.sv_pb;clear hP9 hC9 hO9 hR9 hl9;go_wp2_with fail
      go_region
      all_goals
       have hS10:=(Ch.set (C:=fun i=>i=pb) (Ch.refl w9) (g:=pb) (fun _=>rfl) 2 (.slice (some ⟨g9,0,none⟩) st.length d9)).under (bA (Under.refl _));have hB10:BoxAt ((w9.setCell ⟨pb,2,none⟩ (.slice (some ⟨g9,0,none⟩) st.length d9)).drew) pb 93 #[.map (some hb),.map (some tb),.slice (some ⟨g9,0,none⟩) st.length d9]:=(HP9.out.box.set 2 (.slice (some ⟨g9,0,none⟩) st.length d9)).drew;have hM10:MapAt ((w9.setCell ⟨pb,2,none⟩ (.slice (some ⟨g9,0,none⟩) st.length d9)).drew) tb (ks++[(nm,.int .i64 1)]):=HP9.out.taken.same (hS10.block _ HP9.out.taken.lt (fun e=>HPt.out e.symm));have hH10:MapIAt ((w9.setCell ⟨pb,2,none⟩ (.slice (some ⟨g9,0,none⟩) st.length d9)).drew) hb vE:=HP9.out.heads.same (hS10.block _ HP9.out.heads.lt HP9.out.hb_pb);have hrow9:w9.ownsRow W0.heap.size 9 1 (.slice (some ⟨g9,0,none⟩) st.length d9) st.length (st.map .string):=by
        have h:=nO (m:=st.length) (by have:=HP9.out.row;rw[List.length_append]at this;exact this) (Nat.le_succ _);rw[List.map_append,Nat.mul_one,List.take_left' (by simp)]at h;exact h
       have hR10:=uA (kK hrow9 hS9 2 (.slice (some ⟨g9,0,none⟩) st.length d9)) (bA (Under.refl _));have f1:((w9.setCell ⟨pb,2,none⟩ (.slice (some ⟨g9,0,none⟩) st.length d9)).drew).cell? ⟨pb,1,none⟩=some (.map (some tb)):=hB10.cell 1;have fl:=hB10.lt;have HS10:=Lib.hid hS10;have HB10:=Lib.hid hB10;have HM10:=Lib.hid hM10;have HH10:=Lib.hid hH10;have HR10:=Lib.hid hR10;generalize (w9.setCell ⟨pb,2,none⟩ (.slice (some ⟨g9,0,none⟩) st.length d9)).drew=w10 at *;clear hS10 hB10 hM10 hH10 hrow9 hR10 b2 bl bf;go_wp2_with (refine o6 rfl _ _ _ rfl Tryz.underlying91 Tryz.underlying9 rfl HM10.out HMf.out rfl ?_);clear f1 fl;intro w11 hM11 hT11;have hc11:Ch (fun i=>i=pb∨i=tb) w9 w11:=(HS10.out.weak (fun i _ h=>.inl h)).turned hT11 (fun g e _=>by cases e;exact .inr rfl);have hd11:Ch (fun i=>i=tb) w10 w11:=(Ch.refl w10).turned hT11 (fun g e _=>by cases e;rfl);have HC11:=Lib.hid hc11;have HD11:=Lib.hid hd11;have HM11:=Lib.hid hM11;clear hM11 hT11 hc11 hd11;go_wp2
       go_end0
       have hz8 := HC8.out.size; have hC := ((HC8.out.weak (D := fun b => PrC pb tb (.slice qs st.length ds) b ∨ C b) (fun i _ h => .inl h)).trans HC9.out (fun i hi h => by
         rcases h with(h | h | h) | h
         · exact .inl (.inl h)
         · exact .inl (.inr (.inl h))
         · exact .inl (.inr (.inr (HOw.out i hi h)))
         · exact .inr h)).trans HC11.out (fun i _ h=>by
         rcases h with h | h
         · exact .inl (.inl h)
         · exact .inl (.inr (.inl h)))
       refine⟨⟨_,rfl⟩,_,⟨pF HB10.out HD11.out HPt.out,HH10.out.same (HD11.out.block _ HH10.out.lt HP9.out.hb_tb),HM11.out,fK HR10.out HD11.out (fun g hg e=>by subst e;exact HP9.out.sv_tb hg),?_,HLo.out⟩,hC,fun b hb0 e=>HOw.out b hb0 (HO9.out b (by omega) e),HRs.out _ _ _ HR9.out HC11.out⟩;exact zK HP9.out.und HC11.out (fun b h=>by rcases h with rfl | rfl<;>first | exact HLo.out.1 | exact HLo.out.2.1)
    · rw [HT.out, hk] at HLk; simp only [if_true, Option.getD_some] at HLk; have hkF : k < F := by
       rcases Nat.lt_or_ge k F with h | h
       · exact h
       · obtain rfl : k = F := by omega
         have:=G3.out;rw[hk]at this
         cases this
      go_wp2_with fail; go_region_held3 (fun w' => w'.cell? ⟨pb, 1, none⟩ = some (.map (some tb)) ∧ MapAt w' tb ks)
        (first
          | go_keep
          | exact tt
          | (refine ⟨?_, ?_⟩
             · (rw[jA hU4 dl];assumption)
             · exact MapAt.under (by assumption) hU4))
        ((go_simp;go_at_call 40;refine(HNk.out _ (bA HU.out)).mono ?_;rintro e w4 ⟨rfl,hU4⟩))
      have HU4:=Lib.hid (HU.out.trans ((bA (Under.refl wr)).trans hU4));rename_i hHeld;clear hU4 hHeld tt HLk d1 dl dm HNk hk;go_wp2;go_roundw
      case rel=>exact⟨k+1,by omega,by omega,by go_num,HU4.out⟩
      case measure=>simp[intOf];omega
end
def oDB(pb tb:Nat)(sv tv:Value):Prop:=∀ b off x n c,tv = .slice (some ⟨b,off,x⟩) n c→¬ PrC pb tb sv b
def jJ(T:Tm):Prop:=okT T→rC T≤60→(flat T).length≤4000→∀(W0 w:World) (pb hb tb:Nat) (ks:lD) (st av:List ByteArray) (sv tv:Value),Pow10 W0→ShapesAt 0 W0→PrS W0 pb hb tb ks st sv w→TakenIs ks (av++st) →
 TermV w tv (flat T)→oDB pb tb sv tv→av.length≤90000→st.length+2 * (flat T).length≤90000→(∀ s∈st,s.size≤22)→inT T st.length →
 Calls Tryz.prog 44 #[.pointer (some ⟨pb,0,none⟩),tv] w fun e w'=>e = .returned (.string ⟨(aG av T st).toArray⟩)∧∃ sv',PrS W0 pb hb tb ks st sv' w'∧Ch (PrC pb tb sv) w w'∧∀ b,b < w.heap.size→sv'.ownBlock=some b→sv.ownBlock=some b
structure Lay where
 pb:Nat
 hb:Nat
 tb:Nat
 lb:Nat
 p2:Nat
 xb:Nat
 ub:Nat
def ptr(b:Nat):Value:=.pointer (some ⟨b,0,none⟩)
structure UnS (W0:World) (L:Lay) (ks:lD) (st:List ByteArray) (sv:Value) (ls:List ByteArray) (lv xv:Value) (T:Tm) (w:World):Prop where
 pr:PrS W0 L.pb L.hb L.tb ks st sv w
 lbx:BoxAt w L.lb 22 #[lv]
 lrow:w.ownsRow W0.heap.size 9 1 lv ls.length (ls.map .string)
 apart:lv.ownBlock=none∨lv.ownBlock≠sv.ownBlock
 p2x:BoxAt w L.p2 88 #[ptr L.pb]
 xbx:BoxAt w L.xb 30 #[xv]
 ubx:BoxAt w L.ub 142 #[.func (.func 83) #[] #[ptr L.lb,ptr L.p2,ptr L.xb,ptr L.ub]]
 part:w.ownsRow W0.heap.size 76 4 xv (flat T).length (zB (flat T))
 lo:W0.heap.size≤L.lb
def UnC(L:Lay)(sv lv:Value)(b:Nat):Prop:=PrC L.pb L.tb sv b∨b=L.lb∨lv.ownBlock=some b
section
variable {W0 w w' : World} {L : Lay} {ks ks' : lD} {st st' ls : List ByteArray} {sv sv' lv xv : Value} {T : Tm}
theorem UnS.box_out(h:UnS W0 L ks st sv ls lv xv T w){b:Nat}{t:TypeId}{cs:Array Value}(hb:BoxAt w b t cs)(h1:t≠93)(h2:t≠9):¬ PrC L.pb L.tb sv b:=by
 rintro(rfl | rfl | e)
 · exact uI hb h.pr.box h1 rfl
 · exact xI hb h.pr.taken rfl
 · exact jC hb h.pr.row (fun e=>h2 e.symm) e
theorem UnS.box_outU(h:UnS W0 L ks st sv ls lv xv T w){b:Nat}{t:TypeId}{cs:Array Value}(hb:BoxAt w b t cs)(h1:t≠93)(h2:t≠9)(h3:t≠22):¬ UnC L sv lv b:=by
 rintro(e | rfl | e)
 · exact h.box_out hb h1 h2 e
 · exact uI hb h.lbx h3 rfl
 · exact jC hb h.lrow (fun e=>h2 e.symm) e
theorem UnS.l_out(h:UnS W0 L ks st sv ls lv xv T w):∀ g,lv.ownBlock=some g→¬ PrC L.pb L.tb sv g:=by
 rintro g hg (rfl | rfl | e)
 · exact jC h.pr.box h.lrow (by decide) hg
 · exact nI h.pr.taken h.lrow hg
 · rcases h.apart with h | h
   · rw[h]at hg;cases hg
   · exact h (hg.trans e.symm)
theorem UnS.x_out(h:UnS W0 L ks st sv ls lv xv T w):∀ g,xv.ownBlock=some g→¬ UnC L sv lv g:=by
 rintro g hg ((rfl | rfl | e) | rfl | e)
 · exact jC h.pr.box h.part (by decide) hg
 · exact nI h.pr.taken h.part hg
 · rcases own_ne h.part h.pr.row (by decide) with h' | h'
   · rw[h']at hg;cases hg
   · exact h' (hg.trans e.symm)
 · exact jC h.lbx h.part (by decide) hg
 · rcases own_ne h.part h.lrow (by decide) with h' | h'
   · rw[h']at hg;cases hg
   · exact h' (hg.trans e.symm)
theorem UnS.ch(h:UnS W0 L ks st sv ls lv xv T w)(hc:Ch (PrC L.pb L.tb sv) w w')(hP:PrS W0 L.pb L.hb L.tb ks' st' sv' w')(ho:∀ b,b < w.heap.size→sv'.ownBlock=some b→sv.ownBlock=some b):UnS W0 L ks' st' sv' ls lv xv T w':=by
 refine⟨hP,pF h.lbx hc (h.box_out h.lbx (by decide) (by decide)),fK h.lrow hc h.l_out,?_,pF h.p2x hc (h.box_out h.p2x (by decide) (by decide)),pF h.xbx hc (h.box_out h.xbx (by decide) (by decide)),pF h.ubx hc (h.box_out h.ubx (by decide) (by decide)),fK h.part hc (fun g hg e=>h.x_out g hg (.inl e)),h.lo⟩
 cases hl:lv.ownBlock with
 | none=>exact .inl rfl
 | some g =>
   right
   intro e;have:=ho g (iC h.lrow hl).2 e.symm;rcases h.apart with h' | h'
   · rw[h']at hl;cases hl
   · exact h' (hl.trans this.symm)
theorem UnS.und(h:UnS W0 L ks st sv ls lv xv T w)(hU:Under w w'):UnS W0 L ks st sv ls lv xv T w':=h.ch (Ch.of_under hU) (h.pr.under hU) fun b _ e=>e
theorem UnS.push (h : UnS W0 L ks st sv ls lv xv T w) {x : ByteArray} {g cap : Nat} {w5 : World} (hown : w5.ownsRow W0.heap.size 9 1 (.slice (some ⟨g, 0, none⟩) (ls.length + 1) cap) (ls.length + 1) (ls.map .string ++ [.string x]))
    (hgr:(w.alloc (.cells #[.string x] 9)).grownBy w5 lv.ownBlock) (hat:lv.ownBlock=some g∨g=w.heap.size+1) :
    UnS W0 L ks st sv (ls++[x]) (.slice (some ⟨g,0,none⟩) (ls.length+1) cap) xv T (w5.setCell ⟨L.lb,0,none⟩ (.slice (some ⟨g,0,none⟩) (ls.length+1) cap)) ∧
     Ch (fun i=>i=L.lb∨lv.ownBlock=some i) w (w5.setCell ⟨L.lb,0,none⟩ (.slice (some ⟨g,0,none⟩) (ls.length+1) cap))∧∀ b,b < w.heap.size→(Value.slice (some ⟨g,0,none⟩) (ls.length+1) cap).ownBlock=some b→lv.ownBlock=some b:=by
  have hc5:Ch (fun i=>lv.ownBlock=some i) w w5:=(Ch.of_under (aA (Under.refl w) _)).grown hgr (fun g e _=>e);have hc:Ch (fun i=>i=L.lb∨lv.ownBlock=some i) w (w5.setCell ⟨L.lb,0,none⟩ (.slice (some ⟨g,0,none⟩) (ls.length+1) cap)):=(hc5.weak (fun i _ h=>.inr h)).set (fun _=>.inl rfl) _ _;have out:∀ {b:Nat} {t:TypeId} {cs:Array Value},BoxAt w b t cs→t≠9→t≠22→¬(b=L.lb∨lv.ownBlock=some b):=by
   rintro b t cs hb h2 h3 (rfl | e)
   · exact uI hb h.lbx h3 rfl
   · exact jC hb h.lrow (fun e=>h2 e.symm) e
  have hlb5:BoxAt w5 L.lb 22 #[lv]:=pF h.lbx hc5 (fun e=>jC h.lbx h.lrow (by decide) e);have svn:∀ g,sv.ownBlock=some g→¬(g=L.lb∨lv.ownBlock=some g):=by
   rintro g hg (rfl | e)
   · exact jC h.lbx h.pr.row (by decide) hg
   · rcases h.apart with h' | h'
     · rw[h']at e;cases e
     · exact h' (e.trans hg.symm)
  have tbn:¬(L.tb=L.lb∨lv.ownBlock=some L.tb):=by
   rintro(e | e)
   · exact xI h.lbx h.pr.taken e.symm
   · exact nI h.pr.taken h.lrow e
  have hbn:¬(L.hb=L.lb∨lv.ownBlock=some L.hb):=by
   rintro(e | e)
   · exact fCA h.pr.heads h.lbx e
   · exact jV h.pr.heads h.lrow e
  refine ⟨⟨⟨pF h.pr.box hc (out h.pr.box (by decide) (by decide)), h.pr.heads.same (hc.block _ h.pr.heads.lt hbn), h.pr.taken.same (hc.block _ h.pr.taken.lt tbn), fK h.pr.row hc svn, zK h.pr.und hc ?_, h.pr.lo⟩,
    hlb5.set 0 _,?_,?_,pF h.p2x hc (out h.p2x (by decide) (by decide)),pF h.xbx hc (out h.xbx (by decide) (by decide)),pF h.ubx hc (out h.ubx (by decide) (by decide)),fK h.part hc (fun g hg e=>h.x_out g hg (.inr e)),h.lo⟩,hc,?_⟩
  · rintro b (rfl | e)
    · exact h.lo
    · exact(iC h.lrow e).1
  · rw[List.length_append,List.map_append];exact kK hown (jC hlb5 hown (by decide)) 0 _
  · right
    intro e;have hs:=(iC h.pr.row e.symm).2;rcases hat with h' | rfl
    · rcases h.apart with h'' | h''
      · rw[h'']at h';cases h'
      · exact h'' (h'.trans e)
    · simp at hs;omega
  · rintro b hb e; rcases hat with h' | rfl
    · rw[h'];exact e
    · have : w.heap.size + 1 = b := by simpa [Value.ownBlock] using e
      omega
end
end Go.Proofs.YtlnlpdephijcoaaGreatDoor
