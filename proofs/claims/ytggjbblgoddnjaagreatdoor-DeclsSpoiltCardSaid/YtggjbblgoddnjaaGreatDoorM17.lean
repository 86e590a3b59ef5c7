/- Part 17 of what the proof rests on. -/
import Derived.Conc.CompanyMem
import Derived.Conc.WalkWords
import Derived.Laws.ResultCell
import Derived.Lib.MinMax
import Derived.Deep.QuietTactic
import Derived.Deep.RegionLawGrows
import Derived.Laws.EntriesVeiled
import Derived.Test.YtggjbblgoddnjaaGreatDoorM00
import Derived.Test.YtggjbblgoddnjaaGreatDoorM04
import Derived.Test.YtggjbblgoddnjaaGreatDoorM05
import Derived.Test.YtggjbblgoddnjaaGreatDoorM06
import Derived.Test.YtggjbblgoddnjaaGreatDoorM08
import Derived.Test.YtggjbblgoddnjaaGreatDoorM09
import Derived.Test.YtggjbblgoddnjaaGreatDoorM10
import Derived.Test.YtggjbblgoddnjaaGreatDoorM11
import Derived.Test.YtggjbblgoddnjaaGreatDoorM12
import Derived.Test.YtggjbblgoddnjaaGreatDoorM13
import Derived.Test.YtggjbblgoddnjaaGreatDoorM15
import Derived.Test.YtggjbblgoddnjaaGreatDoorM16
set_option linter.unusedSimpArgs false
set_option linter.unusedVariables false
set_option maxRecDepth 100000
set_option maxHeartbeats 4000000
namespace Go.Proofs.YtggjbblgoddnjaaGreatDoor
open Go.Lx Go.RowKit
theorem uBA{n:Nat}{a:List UInt8}(b:List UInt8)(h:n≤a.length):takeB n (some a)=(a.take n,some (a.drop n))∧takeB n (some (a++b))=(a.take n,some (a.drop n++b)):=by
 constructor
 · simp only[takeB,if_pos h]
 · have h2 : n ≤ (a ++ b).length := by rw [List.length_append]; omega
   simp only[takeB,if_pos h2];rw[List.take_append_of_le_length h,List.drop_append_of_le_length h]
theorem aDA{n:Nat}{a:List UInt8}(h:¬ n≤a.length):iA n (some a)=none:=by
 simp only[iA,takeB,if_neg h]
theorem aKA : ∀ (n : Nat) (acc : List ByteArray) (r : List ByteArray × Left), bI n none acc = some r → r.2 = none
  | 0,acc,r,h=>by cases h;rfl
  | n + 1, acc, r, h => by
    have e:bI (n+1) none acc=some (acc,none):=rfl;rw[e]at h;cases h;rfl
theorem fRA : ∀ (n : Nat) (a b : List UInt8) (acc ls : List ByteArray) (rest : List UInt8), bI n (some a) acc = some (ls, some rest) → bI n (some (a ++ b)) acc = some (ls, some (rest ++ b))
  | 0,a,b,acc,ls,rest,h=>by cases h;rfl
  | n + 1, a, b, acc, ls, rest, h => by
    have hu:∀ l:List UInt8,bI (n+1) (some l) acc=if 20000 < iB 2 (some l) then none else bI n (iA (iB 2 (some l)) (iA 2 (some l))) (acc++[iF (iB 2 (some l)) (iA 2 (some l))]):=fun l=>if_neg (by show ¬((l.length:Nat):Int) < 0;omega)
    rw[hu]at h;rw[hu];by_cases h2:2≤a.length
    · obtain ⟨t1, t2⟩ := uBA b h2; have n1 : iB 2 (some (a ++ b)) = iB 2 (some a) := by unfold iB; rw [t1, t2]
      have m1:iA 2 (some a)=some (a.drop 2):=by unfold iA;rw[t1]
      have m2:iA 2 (some (a++b))=some (a.drop 2++b):=by unfold iA;rw[t2]
      rw[n1,m2];rw[m1]at h;generalize iB 2 (some a)=q at *;by_cases hq:20000 < q
      · rw[if_pos hq]at h;cases h
      · rw [if_neg hq] at h; rw [if_neg hq]; by_cases h3 : q ≤ (a.drop 2).length
        · obtain ⟨s1, s2⟩ := uBA b h3; have k1 : iA q (some (a.drop 2)) = some ((a.drop 2).drop q) := by unfold iA; rw [s1]
          have k2:iA q (some (a.drop 2++b))=some ((a.drop 2).drop q++b):=by unfold iA;rw[s2]
          have k3:iF q (some (a.drop 2++b))=iF q (some (a.drop 2)):=by unfold iF;rw[s1,s2]
          rw[k1]at h;rw[k2,k3];exact fRA n _ b _ ls rest h
        · rw [aDA h3] at h; have := aKA _ _ _ h
          cases this
    · have m1 := aDA h2; rw [m1] at h
      split at h
      · cases h
      · have := aKA _ _ _ h
        cases this
theorem pTA{st:Left}(h:zF st=0):st=some []:=by
 cases st with
 | none=>cases h
 | some l =>
   have:l.length=0:=by have h':((l.length:Nat):Int)=0:=h;omega
   rw[List.length_eq_zero_iff.1 this]
theorem wMA{s u:ByteArray}{ls:List ByteArray}{b:List UInt8}(h:zC s=some ls)(hu:u.data.toList=s.data.toList++b)(hb:b≠[]):zC u=none:=by
 have hs:s.size≠0:=by
  intro e;have:=yAA e;subst this;have e2:zC ⟨#[]⟩=none:=if_pos (by first | rfl | decide | kernel_rfl);rw[e2]at h;cases h
 have hs2:s.toList≠[]:=(yG hs).1;have hul:u.size≠0:=by
  intro e;have e3:u.data.toList.length=u.size:=by rw[Array.length_toList];rfl
  have e4:s.data.toList.length=s.size:=by rw[Array.length_toList];rfl
  have:=congrArg List.length hu;rw[List.length_append]at this;omega
 have hu2:u.toList≠[]:=(yG hul).1;have hp:zC s=xG (bI (iB 1 (some s.data.toList)) (iA 1 (some s.data.toList)) []):=if_neg hs2;have hq:zC u=xG (bI (iB 1 (some u.data.toList)) (iA 1 (some u.data.toList)) []):=if_neg hu2;rw[hp]at h;rw[hq,hu];have e4:s.data.toList.length=s.size:=by rw[Array.length_toList];rfl
 generalize s.data.toList=a at *;have ha:1≤a.length:=by omega
 obtain⟨t1,t2⟩:=uBA b ha;have n1:iB 1 (some (a++b))=iB 1 (some a):=by unfold iB;rw[t1,t2]
 have m1:iA 1 (some a)=some (a.drop 1):=by unfold iA;rw[t1]
 have m2:iA 1 (some (a++b))=some (a.drop 1++b):=by unfold iA;rw[t2]
 rw[n1,m2];rw[m1]at h
 cases hc:bI (iB 1 (some a)) (some (a.drop 1)) [] with
 | none=>rw[hc]at h;cases h
 | some r =>
   obtain⟨l,st⟩:=r;rw[hc]at h;simp only[xG]at h
   split at h
   · cases h
   · rename_i h0; have := pTA (Decidable.not_not.1 h0); subst this; rw [fRA _ _ b _ _ _ hc]; simp only [xG, List.nil_append]; rw [if_pos]
     show((b.length:Nat):Int)≠0
     have:b.length≠0:=fun e=>hb (List.length_eq_zero_iff.1 e)
     omega
theorem iHA{s u:ByteArray}{d:Dc}{b:List UInt8}(h:vH s=some d)(hu:u.data.toList=s.data.toList++b)(hb:b≠[]):vH u=none:=by
 obtain⟨d1,h1,_⟩:=Option.bind_eq_some_iff.1 h;obtain⟨ls,h2,_⟩:=Option.bind_eq_some_iff.1 h1;have:=wMA h2 hu hb;unfold vH mV;rw[this];rfl
theorem mXA{s u:ByteArray}{d:Dc}{b:List UInt8}(h:vH u=some d)(hu:u.data.toList=s.data.toList++b)(hb:b≠[]):vH s=none:=by
 cases hs:vH s with
 | none=>rfl
 | some d'=>rw[iHA hs hu hb]at h;cases h
theorem zNA : ∀ (ss : List ByteArray), (∀ s ∈ ss, s.size ≤ 20000) → ((ss.map xN).flatten).length ≤ ss.length * 20002
  | [],_=>by simp
  | s :: ss, h => by
    have h1:=zNA ss fun y hy=>h y (List.mem_cons_of_mem _ hy)
    have h2:=h s (List.mem_cons_self ..);have e:s.data.toList.length=s.size:=by rw[Array.length_toList];rfl
    have e2:(xN s).length=2+s.size:=by unfold xN;rw[List.length_append,e];rfl
    simp only[List.map_cons,List.flatten_cons,List.length_append,List.length_cons,e2];omega
theorem kKA{ss:List ByteArray}{l:List UInt8}(h:gG ss=some l):1≤l.length∧l.length≤1+ss.length * 20002:=by
 unfold gG at h
 split at h
 · cases h
 · obtain⟨h1,h2⟩:=dR ss _ l h;have:=zNA ss h1;rw[h2,List.length_append];simp only[List.length_cons,List.length_nil];omega
theorem zJA{d:Dc}(h:kF d=0):1≤(xD d).size∧(xD d).size≤200000:=by
 have hd:kJ d=0:=by
  unfold kF at h
  split at h
  · assumption
  · contradiction
 have hp:zN (xL d)=0:=by unfold kF at h;rwa [if_pos hd]at h
 obtain⟨l,h1,h2⟩:=zY hp;have hB:xD d=⟨l.toArray⟩:=by unfold xD;rw[if_pos hd,h2]
 have hl:(xD d).size=l.length:=by rw[hB];rfl
 rw[hl];have hf:=pHA hd;unfold xL at h1
 split at h1
 · obtain ⟨ls, e1, e2⟩ := Option.bind_eq_some_iff.1 h1; obtain ⟨_, g2⟩ := sU _ _ _ e1; have h3 : ls.length ≤ 9 := by rw [g2]; simp [oH]; omega
   have:=kKA e2;omega
 · have h3 : (oH d ++ (aB d).map iC).length ≤ 5 := by
     have:(aB d).length≤2:=by
      unfold aB;split<;>(try split)<;>(try split)<;>first | contradiction | simp
     simp[oH];omega
   have:=kKA h1;omega
def vJ : List (List Nd) → List (List Nd) → Bool
  | [],[]=>true
  | x::a,y::b=>uI x y&&vJ a b
  | _,_=>false
def uL : List (List (List Nd)) → List (List (List Nd)) → Bool
  | [],[]=>true
  | x::a,y::b=>vJ x y&&uL a b
  | _,_=>false
def kQ(d e:Dc):Bool:=d.kind==e.kind&&(d.level==e.level&&(d.name.toList==e.name.toList&&(uI d.type e.type&&(uI d.body e.body&&uL d.cons e.cons))))
theorem iFA : ∀ {a b : List (List Nd)}, a.length ≠ b.length → vJ a b = false
  | [],[],h=>absurd rfl h
  | x :: a, y :: b, h => by
    simp only[vJ];rw[iFA (a:=a) (b:=b) (by simpa using h)];simp
  | [],y::b,h=>rfl
  | x::a,[],h=>rfl
theorem eKA : ∀ {a b : List (List (List Nd))}, a.length ≠ b.length → uL a b = false
  | [],[],h=>absurd rfl h
  | x :: a, y :: b, h => by
    simp only[uL];rw[eKA (a:=a) (b:=b) (by simpa using h)];simp
  | [],y::b,h=>rfl
  | x::a,[],h=>rfl
theorem fDA : ∀ t, vJ t t = true
  | []=>rfl
  | x::t=>by simp[vJ,cCA,fDA t]
theorem mEA : ∀ t, uL t t = true
  | []=>rfl
  | x::t=>by simp[uL,fDA,mEA t]
theorem hGA(d:Dc):kQ d d=true:=by simp[kQ,cCA,mEA]
theorem oQA{a b:List (List Nd)}{k:Nat}(h:k < a.length)(h':k < b.length):vJ (a.drop k) (b.drop k)=(uI a[k] b[k]&&vJ (a.drop (k+1)) (b.drop (k+1))):=by
 rw[List.drop_eq_getElem_cons h,List.drop_eq_getElem_cons h'];rfl
theorem oSA{a b:List (List (List Nd))}{k:Nat}(h:k < a.length)(h':k < b.length):uL (a.drop k) (b.drop k)=(vJ a[k] b[k]&&uL (a.drop (k+1)) (b.drop (k+1))):=by
 rw[List.drop_eq_getElem_cons h,List.drop_eq_getElem_cons h'];rfl
section
variable {w0 : World}
theorem zFA(d e:Dc){v v':Value}(hd:Lite d)(hv:DcV w0 v d)(hv':DcV w0 v' e):Calls Tryz.prog 13 #[v,v'] w0 fun x w=>x = .returned (.bool (kQ d e))∧Under w0 w:=by
 obtain ⟨vt, vb, vc, rfl, h1, h2, h3⟩ := hv; obtain ⟨vt', vb', vc', rfl, h1', h2', h3'⟩ := hv'; have HT := aA (fun w (h : Under w0 w) => lHA (w0 := w) d.type e.type (by have := hd.type; simp only [maxLen]; omega) (TermV.mono _ _ _ _ h h1) (TermV.mono _ _ _ _ h h1')); have HB := aA (fun w (h : Under w0 w) => lHA (w0 := w) d.body e.body (by have := hd.body; simp only [maxLen]; omega) (TermV.mono _ _ _ _ h h2) (TermV.mono _ _ _ _ h h2')); obtain ⟨pt, ct, rfl, _⟩ := h1; obtain ⟨pb, cb, rfl, _⟩ := h2; obtain ⟨pc, cc, us, rfl, _, _, hrc, hzc⟩ := h3; obtain ⟨pt', ct', rfl, _⟩ := h1'; obtain ⟨pb', cb', rfl, _⟩ := h2'; obtain ⟨pc', cc', us', rfl, _, _, hrc', hzc'⟩ := h3'; have HR := aA (And.intro hrc hrc'); have HZ := aA (And.intro hzc hzc'); obtain ⟨wa, hwa⟩ : ∃ wa, wa = (w0.alloc (.cells #[.int .i64 d.kind, .int .i64 d.level, .string d.name, .slice pt d.type.length ct, .slice pb d.body.length cb, .slice pc d.cons.length cc] 37)).alloc (.cells #[.int .i64 e.kind, .int .i64 e.level, .string e.name, .slice pt' e.type.length ct', .slice pb' e.body.length cb', .slice pc' e.cons.length cc'] 37) := ⟨_, rfl⟩; have HB1 := aA (show BoxAt wa w0.heap.size 37 #[.int .i64 d.kind, .int .i64 d.level, .string d.name, .slice pt d.type.length ct, .slice pb d.body.length cb, .slice pc d.cons.length cc] by rw [hwa]; exact (rA w0 _ _).alloc _); have HB2 := aA (show BoxAt wa (w0.heap.size + 1) 37 #[.int .i64 e.kind, .int .i64 e.level, .string e.name, .slice pt' e.type.length ct', .slice pb' e.body.length cb', .slice pc' e.cons.length cc'] by
   have:=rA (w0.alloc (.cells #[.int .i64 d.kind,.int .i64 d.level,.string d.name,.slice pt d.type.length ct,.slice pb d.body.length cb,.slice pc d.cons.length cc] 37)) #[.int .i64 e.kind,.int .i64 e.level,.string e.name,.slice pt' e.type.length ct',.slice pb' e.body.length cb',.slice pc' e.cons.length cc'] 37;rw[hwa]
   simpa using this)
 have HU:=aA (show Under w0 wa by rw[hwa];exact bA (bA (Under.refl w0) _) _);have HWa:=aA hwa;have HD:=aA hd;have hc9:(d.cons.length:Int)≤5864062014634:=by have:=hd.cons;omega
 have hc0:(0:Int)≤(d.cons.length:Int):=by omega
 have HN:RowKit.Hid (kQ d e=(d.kind==e.kind&&(d.level==e.level&&(d.name.toList==e.name.toList&&(uI d.type e.type&&(uI d.body e.body&&uL d.cons e.cons)))))):=aA rfl;clear hrc hrc' hzc hzc' hd hwa;go_enter Tryz.func13,Tryz.ntmps13;by_cases k1:d.kind=e.kind
 case neg =>
   have k1':(d.kind==e.kind)=false:=by simpa using k1
   have HM:=aA (show kQ d e=false by rw[HN.out,k1'];rfl);have k2:(d.kind != e.kind)=true:=by simpa using k1
   clear k1 k1';go_wp2;go_ret;exact⟨by rw[HM.out];rfl,by rw[← HWa.out];exact HU.out⟩
 have k1':(d.kind != e.kind)=false:=by simpa using k1
 by_cases k2:d.level=e.level
 case neg =>
   have k2':(d.level==e.level)=false:=by simpa using k2
   have HM:=aA (show kQ d e=false by rw[HN.out,k2'];simp);have k3:(d.level != e.level)=true:=by simpa using k2
   clear k2 k2' k1;go_wp2;go_ret;exact⟨by rw[HM.out];rfl,by rw[← HWa.out];exact HU.out⟩
 have k2':(d.level != e.level)=false:=by simpa using k2
 by_cases k3:(d.name.toList==e.name.toList)=true
 case neg =>
   have k3':(d.name.toList==e.name.toList)=false:=by simpa using k3
   have HM:=aA (show kQ d e=false by rw[HN.out,k3'];simp);clear k3 k1 k2;go_wp2;go_ret;exact⟨by rw[HM.out];rfl,by rw[← HWa.out];exact HU.out⟩
 have HN:=aA (show kQ d e=(uI d.type e.type&&(uI d.body e.body&&uL d.cons e.cons)) by rw[HN.out,k3,show(d.kind==e.kind)=true by simpa using k1,show(d.level==e.level)=true by simpa using k2];rfl);generalize kQ d e=Q at *;clear k1 k2;go_wp2_with fail;rw[← HWa.out];clear HWa;refine(HT.out _ HU.out).mono ?_;rintro x w1 ⟨rfl,hU1⟩;have HBa:=aA (HB1.out.under hU1);have HBb:=aA (HB2.out.under hU1);have HUa:=aA (HU.out.trans hU1);clear hU1 HT HB1 HB2 HU;have b0:=HBa.out.cell 4;have b1:=HBb.out.cell 4;have b2:=HBa.out.cell 5;have b3:=HBb.out.cell 5;have bl:=HBa.out.lt;have bl2:=HBb.out.lt
 cases hs1:uI d.type e.type
 case false =>
   have HM:=aA (show Q=false by rw[HN.out,hs1];rfl);go_wp2;go_ret;exact⟨by rw[HM.out];rfl,HUa.out⟩
 have HN:=aA (show Q=(uI d.body e.body&&uL d.cons e.cons) by rw[HN.out,hs1];rfl);clear hs1;go_wp2_with fail;refine(HB.out _ HUa.out).mono ?_;rintro x w2 ⟨rfl,hU2⟩;have HB1:=aA (HBa.out.under hU2);have HB2:=aA (HBb.out.under hU2);have HUb:=aA (HUa.out.trans hU2);clear hU2 HB HBa HBb HUa b0 b1 b2 b3 bl bl2;have b2:=HB1.out.cell 5;have b3:=HB2.out.cell 5;have bl:=HB1.out.lt;have bl2:=HB2.out.lt
 cases hs2:uI d.body e.body
 case false =>
   have HM:=aA (show Q=false by rw[HN.out,hs2];rfl);go_wp2;go_ret;exact⟨by rw[HM.out];rfl,HUb.out⟩
 have HN:=aA (show Q=uL d.cons e.cons by rw[HN.out,hs2];rfl);clear hs2;by_cases hl:d.cons.length=e.cons.length
 case neg =>
   have HM:=aA (show Q=false by rw[HN.out,eKA hl]);have hl':((d.cons.length:Int) != (e.cons.length:Int))=true:=by simp;omega
   clear hl;go_wp2;go_ret;exact⟨by rw[HM.out];rfl,HUb.out⟩
 have hl':((d.cons.length:Int) != (e.cons.length:Int))=false:=by simp;omega
 go_wp2;clear b2 b3 bl bl2 hl';have HLe:=aA hl;clear hl;go_loopw [5] (fun i wr=>∃ k:Nat,k≤d.cons.length∧i = .int .i64 (k:Int)∧uL d.cons e.cons=uL (d.cons.drop k) (e.cons.drop k)∧Under w2 wr) (fun i _=>d.cons.length - (intOf i).toNat)
 case atStart=>exact⟨0,Nat.zero_le _,rfl,by simp,Under.refl _⟩
 case round =>
   obtain⟨k,hk,rfl,hsc,hU3⟩:=hrel;have HBc:=aA (HB1.out.under hU3);have HBd:=aA (HB2.out.under hU3);have HV:=aA hU3;have HU:=aA (HUb.out.trans hU3);have HSc:=aA hsc;have hk0:(0:Int)≤(k:Int):=by omega
   clear hU3 hsc;have b2:=HBc.out.cell 5;have b3:=HBd.out.cell 5;have bl:=HBc.out.lt;have bl2:=HBd.out.lt;by_cases hlt:k < d.cons.length
   · have hlt2 : k < e.cons.length := by have := HLe.out; omega
     obtain⟨u,hu,q,c',vs2,rfl,_,_,hr2,hz2⟩:=HZ.out.1.at (List.getElem?_eq_getElem hlt);obtain⟨u',hu',q',c2',vs2',rfl,_,_,hr2',hz2'⟩:=HZ.out.2.at (List.getElem?_eq_getElem hlt2);obtain⟨b9,off9,rfl,hb9,hcs⟩:=HR.out.1 (fun e=>by rw[e]at hu;simp at hu);obtain⟨b8,off8,rfl,hb8,hcs'⟩:=HR.out.2 (fun e=>by rw[e]at hu';simp at hu');have cc9:=hcs k _ hu;have cc8:=hcs' k _ hu';have HC98:=aA (And.intro (And.intro hb9 cc9) (And.intro hb8 cc8));rw[← fA HU.out hb9]at cc9;rw[← fA HU.out hb8]at cc8;have hb9':=Nat.lt_of_lt_of_le hb9 HU.out.size;have hb8':=Nat.lt_of_lt_of_le hb8 HU.out.size;have hlt':(k:Int) < (d.cons.length:Int):=by omega
     have hlt2':(k:Int) < (e.cons.length:Int):=by omega
     obtain⟨hm,htl⟩:=HD.out.con _ (List.getElem_mem hlt);have HTl:=aA htl;have HR2:=aA (And.intro hr2 hr2');have HZ2:=aA (And.intro hz2 hz2');have HSd:=aA (HSc.out.trans (oSA hlt hlt2));clear hcs hu hcs' hu' hr2 hr2' hz2 hz2' htl;generalize d.cons[k]=c at *;generalize e.cons[k]=f at *;have hm0:(0:Int)≤(c.length:Int):=by omega
     have hm9:(c.length:Int)≤5864062014634:=by omega
     have b2':wr.cell? ⟨w0.heap.size,5,none⟩=some (.slice (some ⟨b9,off9,none⟩) d.cons.length cc):=b2;have b3':wr.cell? ⟨w0.heap.size+1,5,none⟩=some (.slice (some ⟨b8,off8,none⟩) e.cons.length cc'):=b3;go_wp2_with fail;rename_i K hK;refine wp_region_noPanic ?_;refine wp_region_held_drew (S:=fun w'=>w'.cell? ⟨w0.heap.size,5,none⟩=some (.slice (some ⟨b9,off9,none⟩) d.cons.length cc)∧w'.cell? ⟨w0.heap.size+1,5,none⟩=some (.slice (some ⟨b8,off8,none⟩) e.cons.length cc')∧w'.cell? ⟨b9,off9+k,none⟩=some (.slice q c.length c')∧w'.cell? ⟨b8,off8+k,none⟩=some (.slice q' f.length c2')) (by kernel_rfl) ⟨b2',b3',cc9,cc8⟩ (fun hHeld=>?_);refine dA 0 rfl ?_;refine dA 1 rfl ?_;refine dA 2 rfl ?_;refine dA 3 rfl ?_;refine dA 4 rfl ?_;refine dA 5 rfl ?_;refine dA 6 rfl ?_;refine dA 7 rfl ?_;refine dA 8 rfl ?_;refine dA 9 rfl ?_;refine dA 10 rfl ?_;refine dA 11 rfl ?_;refine dA 12 rfl ?_
     try walk_nrm
     refine wpAnyH_done (by kernel_rfl) ?_ _;refine NoPanic.normal ?_;refine hK _ _ ?_;have HVd:=aA (nA HV.out);clear hHeld hK K b2' b3' b2 b3 bl bl2 cc9 cc8 hb9' hb8';by_cases hcf:c.length=f.length
     case neg =>
       have HM:=aA (show Q=false by rw[HN.out,HSd.out,iFA hcf];rfl);have hl':((c.length:Int) != (f.length:Int))=true:=by simp;omega
       clear hcf;go_wp2;go_ret;exact⟨by rw[HM.out];rfl,nA HU.out⟩
     have hl':((c.length:Int) != (f.length:Int))=false:=by simp;omega
     simp only[hl'];go_wp2;clear hl';have HCf:=aA hcf;clear hcf;go_loopw [6] (fun i wi=>∃ j:Nat,j≤c.length∧i = .int .i64 (j:Int)∧vJ c f=vJ (c.drop j) (f.drop j)∧Under w2 wi) (fun i _=>c.length - (intOf i).toNat)
     case atStart=>exact⟨0,Nat.zero_le _,rfl,by simp,HVd.out⟩
     case round =>
       obtain⟨j,hj,rfl,hst,hU4⟩:=hrel;have HBe:=aA (HB1.out.under hU4);have HBf:=aA (HB2.out.under hU4);have HVi:=aA hU4;have HUi:=aA (HUb.out.trans hU4);have HSt:=aA hst;have hj0:(0:Int)≤(j:Int):=by omega
       clear hU4 hst;have b2:wr.cell? ⟨w0.heap.size,5,none⟩=some (.slice (some ⟨b9,off9,none⟩) d.cons.length cc):=HBe.out.cell 5;have b3:wr.cell? ⟨w0.heap.size+1,5,none⟩=some (.slice (some ⟨b8,off8,none⟩) e.cons.length cc'):=HBf.out.cell 5;have bl:=HBe.out.lt;have bl2:=HBf.out.lt;have cc9:=(fA HUi.out HC98.out.1.1 _).trans HC98.out.1.2;have cc8:=(fA HUi.out HC98.out.2.1 _).trans HC98.out.2.2;have hb9':=Nat.lt_of_lt_of_le HC98.out.1.1 HUi.out.size;have hb8':=Nat.lt_of_lt_of_le HC98.out.2.1 HUi.out.size;by_cases hlj:j < c.length
       · have hlj2 : j < f.length := by have := HCf.out; omega
         obtain⟨u3,hu3,ht3⟩:=HZ2.out.1.at (List.getElem?_eq_getElem hlj);obtain⟨u4',hu4,ht4⟩:=HZ2.out.2.at (List.getElem?_eq_getElem hlj2);obtain⟨b7,off7,rfl,hb7,hcs7⟩:=HR2.out.1 (fun e=>by rw[e]at hu3;simp at hu3);obtain⟨b6,off6,rfl,hb6,hcs6⟩:=HR2.out.2 (fun e=>by rw[e]at hu4;simp at hu4);have cc7:=(fA HUi.out hb7 _).trans (hcs7 j _ hu3);have cc6:=(fA HUi.out hb6 _).trans (hcs6 j _ hu4);have hb7':=Nat.lt_of_lt_of_le hb7 HUi.out.size;have hb6':=Nat.lt_of_lt_of_le hb6 HUi.out.size;have hlj':(j:Int) < (c.length:Int):=by omega
         have hlj2':(j:Int) < (f.length:Int):=by omega
         have HS := aA (fun w (h : Under w0 w) => lHA (w0 := w) c[j] f[j] (by have := HTl.out _ (List.getElem_mem hlj); simp only [maxLen]; omega) (TermV.mono _ _ _ _ h ht3) (TermV.mono _ _ _ _ h ht4)); have HSe := aA (HSt.out.trans (oQA hlj hlj2)); obtain ⟨p3, c3, rfl, _⟩ := ht3; obtain ⟨p4, c4, rfl, _⟩ := ht4; clear hcs7 hcs6 hu3 hu4; generalize c[j] = t at *; generalize f[j] = t' at *; go_wp2_with fail; rename_i K0 hK0; have HX := aA (show ∀ w', Under wr w' → w'.cell? ⟨w0.heap.size, 5, none⟩ = some (.slice (some ⟨b9, off9, none⟩) d.cons.length cc) ∧ w'.cell? ⟨w0.heap.size + 1, 5, none⟩ = some (.slice (some ⟨b8, off8, none⟩) e.cons.length cc') ∧ w'.cell? ⟨b9, off9 + k, none⟩ = some (.slice (some ⟨b7, off7, none⟩) c.length c') ∧ w'.cell? ⟨b8, off8 + k, none⟩ = some (.slice (some ⟨b6, off6, none⟩) f.length c2') ∧ w'.cell? ⟨b7, off7 + j, none⟩ = some (.slice p3 t.length c3) ∧ w'.cell? ⟨b6, off6 + j, none⟩ = some (.slice p4 t'.length c4) from fun w' h =>
           ⟨(fA h bl _).trans b2,(fA h bl2 _).trans b3,(fA h hb9' _).trans cc9,(fA h hb8' _).trans cc8,(fA h hb7' _).trans cc7,(fA h hb6' _).trans cc6⟩)
         refine wp_region_noPanic ?_;refine wp_region_held_drew (S:=fun w'=>w'.cell? ⟨w0.heap.size,5,none⟩=some (.slice (some ⟨b9,off9,none⟩) d.cons.length cc)∧w'.cell? ⟨w0.heap.size+1,5,none⟩=some (.slice (some ⟨b8,off8,none⟩) e.cons.length cc')∧w'.cell? ⟨b9,off9+k,none⟩=some (.slice (some ⟨b7,off7,none⟩) c.length c')∧w'.cell? ⟨b8,off8+k,none⟩=some (.slice (some ⟨b6,off6,none⟩) f.length c2')∧w'.cell? ⟨b7,off7+j,none⟩=some (.slice p3 t.length c3)∧w'.cell? ⟨b6,off6+j,none⟩=some (.slice p4 t'.length c4)) (by kernel_rfl) (HX.out _ (nA (Under.refl _))) (fun hHeld=>?_);refine dA 0 rfl ?_;refine dA 1 rfl ?_;refine dA 2 rfl ?_;refine dA 3 rfl ?_;refine dA 4 rfl ?_;refine dA 5 rfl ?_;refine dA 6 rfl ?_;refine dA 7 rfl ?_;refine dA 8 rfl ?_;refine dA 9 rfl ?_;refine dA 10 rfl ?_;refine dA 11 rfl ?_;refine dA 12 rfl ?_;refine dA 13 rfl ?_;refine dA 14 rfl ?_;refine dA 15 rfl ?_
         try walk_nrm
         refine yA 16 (by kernel_rfl) rfl fun K hK=>?_
         go_simp;go_at_call 40;refine(HS.out _ (nA HUi.out)).mono ?_;rintro x w9 ⟨rfl,hU9⟩;refine hK.out _ _ (HX.out _ ((nA (Under.refl _)).trans hU9)) (fun _=>?_);clear hK K hHeld;rename_i hHeld
         try walk_nrm
         refine dA 17 rfl ?_
         try walk_nrm
         refine wpAnyH_done (by kernel_rfl) ?_ _;refine NoPanic.normal ?_;refine hK0 _ _ ?_;have HU9:=aA ((nA HVi.out).trans hU9);clear hHeld HX hK0 K0 hU9
         cases hs3:uI t t'
         case false =>
           have HM:=aA (show Q=false by rw[HN.out,HSd.out,HSe.out,hs3];rfl);go_wp2;go_ret;exact⟨by rw[HM.out];rfl,HUb.out.trans HU9.out⟩
         have HSe:=aA (show vJ c f=vJ (c.drop (j+1)) (f.drop (j+1)) by rw[HSe.out,hs3];rfl);clear hs3;simp only[Bool.not_true];go_wp2;go_roundw
         case rel=>exact⟨j+1,by omega,by go_num,HSe.out,HU9.out⟩
         case measure=>simp[intOf];omega
       · obtain rfl : j = c.length := by omega
         have hT:vJ c f=true:=by rw[HSt.out,List.drop_length,HCf.out,List.drop_length];rfl
         have HSd:=aA (show uL d.cons e.cons=uL (d.cons.drop (k+1)) (e.cons.drop (k+1)) by rw[HSd.out,hT];rfl);clear hT;go_wp2;go_roundw
         case rel=>exact⟨k+1,by omega,by go_num,HSd.out,HVi.out⟩
         case measure=>simp[intOf];omega
   · obtain rfl : k = d.cons.length := by omega
     have HM:=aA (show Q=true by rw[HN.out,HSc.out,List.drop_length,HLe.out,List.drop_length];rfl);go_wp2;go_ret;exact⟨by rw[HM.out];rfl,HU.out⟩
theorem rKA(d:Dc){v v':Value}(hd:Lite d)(hv:DcV w0 v d)(hv':DcV w0 v' d):Calls Tryz.prog 13 #[v,v'] w0 fun e w=>e = .returned (.bool true)∧Under w0 w:=by
 have:=zFA d d hd hv hv'
 rwa [hGA]at this
end
section
variable {w0 : World}
theorem yK(d:Dc){v:Value}(hv:DcV w0 v d):Calls Tryz.prog 14 #[v] w0 fun e w=>e = .returned v∧Under w0 w:=by
 obtain⟨vt,vb,vc,rfl,⟨p1,c1,rfl,_⟩,⟨p2,c2,rfl,_⟩,⟨p3,c3,us3,rfl,_⟩⟩:=hv;generalize d.type.length=n1;generalize d.body.length=n2;generalize d.cons.length=n3;go_enter Tryz.func14,Tryz.ntmps14;go_wp2;refine bodyPost_ret (v:=.agg #[.int .i64 d.kind,.int .i64 d.level,.string d.name,.slice p1 n1 c1,.slice p2 n2 c2,.slice p3 n3 c3]) ?_ rfl ⟨rfl,bA (bA (Under.refl _) _) _⟩;simp[results,Tryz.f14,go_sem]
end
section
variable {w0 : World}
def vDB(w0:World)(t:List Nd)(n i:Value)(wr:World):Prop:=w0=wr∧∃(k:Nat) (z:Int),k≤t.length∧i = .int .i64 (k:Int)∧n = .int .i64 z∧0≤z∧z≤1049600∧(z≤2048→t.length≤2048)
theorem nGA(t:List Nd){v:Value}(hn:t.length≤maxLen)(hv:TermV w0 v t):Calls Tryz.prog 41 #[v] w0 fun e w=>w=w0∧∃ z:Int,e = .returned (.int .i64 z)∧0≤z∧z≤1049600∧(z≤2048→t.length≤2048):=by
 obtain⟨p,c,rfl,hc,h0,hr⟩:=hv;have HR:=aA hr;have hn9:(t.length:Int)≤9223372036854775807:=by simp only[maxLen]at hn;omega
 have hl0:(0:Int)≤(t.length:Int):=by omega
 clear hr hn hc h0;go_enter Tryz.func41,Tryz.ntmps41;go_wp2;go_loopw [3,4] (fun n i wr=>vDB w0 t n i wr) (fun _ i _=>t.length - (intOf i).toNat)
 case atStart=>exact⟨rfl,0,_,Nat.zero_le _,rfl,rfl,by omega,by omega,by omega⟩
 case round =>
   obtain⟨rfl,k,z,hk,rfl,rfl,hz0,hz1,hz2⟩:=hrel;have hk0:(0:Int)≤(k:Int):=by omega
   by_cases hlt:k < t.length
   · have hlt' : (k : Int) < (t.length : Int) := by omega
     by_cases hz:z≤8192
     · obtain ⟨b, off, rfl, hb, hcs⟩ := HR.out (fun e => by rw [yCA e] at hlt; exact absurd hlt (by simp)); have cc := hcs _ _ (rY (List.getElem?_eq_getElem hlt)).2.2.2; rw [← Nat.add_assoc] at cc; generalize t[k] = x at *; have hx0 : (0 : Int) ≤ (x.s.size : Int) := by omega
       clear hcs;go_wp2;go_roundw
       case rel=>exact⟨rfl,k+1,_,by omega,by go_num,rfl,by omega,by omega,by omega⟩
       case measure=>simp[intOf];omega
     · have hz' : 8192 < z := by omega
       clear hz;go_wp2;go_ret;exact⟨rfl,_,rfl,hz0,hz1,hz2⟩
   · have hlt' : ¬ (k : Int) < (t.length : Int) := by omega
     go_wp2;go_ret;exact⟨rfl,_,rfl,hz0,hz1,hz2⟩
def bZ : List (List (List Nd)) → Nat
  | []=>0
  | c::l=>min c.length 1024+bZ l
theorem rXA{l:List (List (List Nd))}{k:Nat}(h:k < l.length):bZ (l.take (k+1))=bZ (l.take k)+min l[k].length 1024:=by
 induction l generalizing k with
 | nil=>simp at h
 | cons c l ih =>
   cases k with
   | zero=>simp[bZ]
   | succ k =>
     have:=ih (k:=k) (by simpa using h);simp only[List.take_succ_cons,bZ,List.getElem_cons_succ];omega
structure WB (d:Dc):Prop where
 type:d.type.length≤2048
 body:d.body.length≤2048
 caps:bZ d.cons≤2047
 terms:∀ c∈d.cons,∀ t∈c,t.length≤2048
def WtF(d:Dc)(k:Nat)(z:Int):Prop:=1≤z∧z≤3000000∧(z≤2048→d.type.length≤2048∧d.body.length≤2048∧(bZ (d.cons.take k):Int) < z∧∀ c∈d.cons.take k,∀ t∈c,t.length≤2048)
def WtI(d:Dc)(k:Nat)(c:List (List Nd))(j:Nat)(z:Int):Prop:=1≤z∧z≤3000000∧(z≤2048→d.type.length≤2048∧d.body.length≤2048∧(bZ (d.cons.take k):Int)+min (c.length:Int) 1024 < z∧(∀ c∈d.cons.take k,∀ t∈c,t.length≤2048)∧∀ t∈c.take j,t.length≤2048)
theorem dY{α:Type}{l:List α}{k:Nat}(h:k < l.length){x:α}(hx:x∈l.take (k+1)):x∈l.take k∨x=l[k]:=by
 rw[List.take_succ_eq_append_getElem h,List.mem_append,List.mem_singleton]at hx;exact hx
theorem WtF.out{d:Dc}{k:Nat}{z:Int}(h:WtF d k z)(hk:k=d.cons.length∨2048 < z):z≤2048→WB d:=by
 intro hz;obtain⟨_,_,h3⟩:=h;obtain⟨a,b,c,e⟩:=h3 hz;obtain rfl:k=d.cons.length:=by omega
 rw[List.take_length]at c e;exact⟨a,b,by omega,e⟩
theorem WtF.go{d:Dc}{k:Nat}{z:Int}(h:WtF d k z)(hz:z≤2048)(hk:k < d.cons.length):WtI d k d.cons[k] 0 (z+min (d.cons[k].length:Int) 1024):=by
 obtain⟨h1,h2,h3⟩:=h;obtain⟨a,b,c,e⟩:=h3 hz;exact⟨by omega,by omega,fun _=>⟨a,b,by omega,e,fun t ht=>by simp at ht⟩⟩
theorem WtI.out{d:Dc}{k j:Nat}{z:Int}(hk:k < d.cons.length)(h:WtI d k d.cons[k] j z)(hj:j=d.cons[k].length∨2048 < z):WtF d (k+1) z:=by
 obtain⟨h1,h2,h3⟩:=h;refine⟨h1,h2,fun hz=>?_⟩;obtain⟨a,b,c,e,f⟩:=h3 hz;obtain rfl:j=d.cons[k].length:=by omega
 rw[List.take_length]at f;refine⟨a,b,by rw[rXA hk];omega,fun x hx=>?_⟩;rcases dY hk hx with hx | rfl
 · exact e x hx
 · exact f
theorem WtI.go{d:Dc}{k j:Nat}{c:List (List Nd)}{z y:Int}(h:WtI d k c j z)(hz:z≤2048)(hj:j < c.length)(hy0:0≤y)(hy1:y≤1049600)(hy:y≤2048→c[j].length≤2048):WtI d k c (j+1) (z+y):=by
 obtain⟨h1,h2,h3⟩:=h;obtain⟨a,b,cc,e,f⟩:=h3 hz;refine⟨by omega,by omega,fun hzy=>⟨a,b,by omega,e,fun t ht=>?_⟩⟩;rcases dY hj ht with ht | rfl
 · exact f t ht
 · exact hy (by omega)
def sBB(db:Nat)(z:Int)(J:Nat→Value):Array Value:=#[J 0,.pointer (some ⟨db,0,none⟩),.int .i64 0,.int .i64 z,J 4,J 5,J 6,J 7,J 8,J 9,J 10,J 11,J 12,J 13,J 14,J 15,J 16,J 17,J 18,J 19,J 20,J 21,J 22,J 23,J 24,J 25,J 26,J 27,J 28,J 29,J 30,J 31,J 32,J 33,J 34,J 35,J 36,J 37,J 38,J 39,J 40,J 41,J 42,J 43,J 44,J 45,J 46,J 47,J 48,J 49,J 50,J 51,J 52,J 53,J 54,J 55,J 56,J 57,J 58,J 59,J 60,J 61,J 62,J 63,J 64,J 65,J 66,J 67,J 68,J 69]
def WtQ(w1:World)(db:Nat)(d:Dc)(e:Exit)(a':Act)(w':World):Prop:=e = .normal∧∃ z,WtF d 0 z∧(∃ J,a'=⟨sBB db z J,[]⟩)∧Under w1 w'
theorem iZ(d:Dc){v:Value}(hs:SzD d)(hv:DcV w0 v d):Calls Tryz.prog 15 #[v] w0 fun e w=>Under w0 w∧∃ z:Int,e = .returned (.int .i64 z)∧1≤z∧z≤3000000∧(z≤2048→WB d):=by
 obtain⟨vt,vb,vc,rfl,ht,hb,hc⟩:=hv;have HT:=aA (fun w (h:Under w0 w)=>nGA (w0:=w) d.type hs.type.1 (TermV.mono _ _ _ _ h ht));have HB:=aA (fun w (h:Under w0 w)=>nGA (w0:=w) d.body hs.body.1 (TermV.mono _ _ _ _ h hb));have HS:=aA hs;obtain⟨pt,ct,rfl,_⟩:=ht;obtain⟨pb,cb,rfl,_⟩:=hb;obtain⟨pc,cc,us,rfl,_,_,hrc,hzc⟩:=hc;have HRc:=aA hrc;have HZc:=aA hzc;have hn9:(d.name.size:Int)≤9223372036854775807:=by have:=hs.name;simp only[maxLen]at this;omega
 have hn0:(0:Int)≤(d.name.size:Int):=by omega
 have hc9:(d.cons.length:Int)≤5864062014634:=by have:=hs.cons;omega
 have hc0:(0:Int)≤(d.cons.length:Int):=by omega
 have HX:=aA (rA w0 #[.int .i64 d.kind,.int .i64 d.level,.string d.name,.slice pt d.type.length ct,.slice pb d.body.length cb,.slice pc d.cons.length cc] 33);have HU:=aA (bA (Under.refl w0) (.cells #[.int .i64 d.kind,.int .i64 d.level,.string d.name,.slice pt d.type.length ct,.slice pb d.body.length cb,.slice pc d.cons.length cc] 33));clear hrc hzc hs;go_enter Tryz.func15,Tryz.ntmps15;go_wp2;rename_i K0 hK0;obtain⟨w1,hw1⟩:∃ w1,w1=w0.alloc (.cells #[.int .i64 d.kind,.int .i64 d.level,.string d.name,.slice pt d.type.length ct,.slice pb d.body.length cb,.slice pc d.cons.length cc] 33):=⟨_,rfl⟩;rw[← hw1]at HX HU ⊢;clear hw1;refine wp_mono (Q:=WtQ w1 w0.heap.size d) ?_ ?_
 · clear hK0; have c2 := HX.out.cell 2; have c3 := HX.out.cell 3; have c4 := HX.out.cell 4; have c5 := HX.out.cell 5; have cl := HX.out.lt; refine wp_region_noPanic ?_; refine wp_region_held_drew (S := fun w' => w'.cell? ⟨w0.heap.size, 2, none⟩ = some (.string d.name) ∧ w'.cell? ⟨w0.heap.size, 3, none⟩ = some (.slice pt d.type.length ct) ∧ w'.cell? ⟨w0.heap.size, 4, none⟩ = some (.slice pb d.body.length cb) ∧ w'.cell? ⟨w0.heap.size, 5, none⟩ = some (.slice pc d.cons.length cc)) (by kernel_rfl) ⟨c2, c3, c4, c5⟩ (fun hHeld => ?_); refine dA 0 rfl ?_; refine dA 1 rfl ?_; refine dA 4 rfl ?_; refine dA 5 rfl ?_; refine dA 8 rfl ?_; refine dA 9 rfl ?_; refine dA 10 rfl ?_; refine dA 11 rfl ?_; refine dA 13 rfl ?_; refine dA 14 rfl ?_; refine dA 15 rfl ?_; refine dA 16 rfl ?_
   try walk_nrm
   refine yA 2 (by kernel_rfl) rfl fun K hK=>?_
   go_simp;go_at_call 41;refine(HT.out _ (nA HU.out)).mono ?_;rintro e wx ⟨rfl,zHT,rfl,hzHT0,hzHT1,hzHT2⟩;refine hK.out _ _ ⟨c2,c3,c4,c5⟩ (fun _=>?_);clear hK K hHeld;rename_i hHeld
   try walk_nrm
   refine dA 3 rfl ?_
   try walk_nrm
   refine yA 6 (by kernel_rfl) rfl fun K hK=>?_
   go_simp;go_at_call 41;refine(HB.out _ (nA HU.out)).mono ?_;rintro e wx ⟨rfl,zHB,rfl,hzHB0,hzHB1,hzHB2⟩;refine hK.out _ _ ⟨c2,c3,c4,c5⟩ (fun _=>?_);clear hK K hHeld;rename_i hHeld
   try walk_nrm
   refine dA 7 rfl ?_;refine dA 12 rfl ?_;refine dA 17 rfl ?_;refine dA 18 rfl ?_
   try walk_nrm
   refine wpAnyH_done (by kernel_rfl) ?_ _;refine NoPanic.normal ?_;have e1:IntKind.i64.wrap (1+zHT)=1+zHT:=by rw[IntKind.wrap_i64];omega
   have e2:IntKind.i64.wrap (1+zHT+zHB)=1+zHT+zHB:=by rw[IntKind.wrap_i64];omega
   have e3:IntKind.i64.wrap (1+zHT+zHB+min (d.name.size:Int) 1024)=1+zHT+zHB+min (d.name.size:Int) 1024:=by rw[IntKind.wrap_i64];omega
   have e4:IntKind.i64.wrap (1+zHT+zHB+min (d.name.size:Int) 1024+min (d.cons.length:Int) 1024)=1+zHT+zHB+min (d.name.size:Int) 1024+min (d.cons.length:Int) 1024:=by rw[IntKind.wrap_i64];omega
   rw[e1,e2,e3,e4];refine⟨rfl,1+zHT+zHB+min (d.name.size:Int) 1024+min (d.cons.length:Int) 1024,⟨by omega,by omega,fun h=>⟨by omega,by omega,by simp[bZ];omega,fun c hc=>by simp at hc⟩⟩,⟨_,nD (F:=sBB w0.heap.size _) (by rfl)⟩,nA (Under.refl _)⟩
 rintro e a' w2 ⟨rfl,z,hz,⟨J,rfl⟩,hU2⟩;refine hK0 _ _ ?_;have HX:=aA (HX.out.under hU2);have HU:=aA (HU.out.trans hU2);have HZ0:=aA hz;clear hU2 hK0 hz;have hbx:=HX.out;clear HT HB;unfold sBB;go_wp2;go_loopw [3,4] (fun n i wr=>w2=wr∧∃(k:Nat) (z:Int),k≤d.cons.length∧i = .int .i64 (k:Int)∧n = .int .i64 z∧WtF d k z) (fun _ i _=>d.cons.length - (intOf i).toNat)
 case atStart=>exact⟨rfl,0,z,Nat.zero_le _,rfl,rfl,HZ0.out⟩
 case round =>
   obtain⟨rfl,k,z,hk,rfl,rfl,hz⟩:=hrel;have c5:=hbx.cell 5;have cl:=hbx.lt;have hk0:(0:Int)≤(k:Int):=by omega
   have hz1:=hz.1;have hz2:=hz.2.1;have HF:=aA hz;clear hz;by_cases hlt:k < d.cons.length
   · have hlt' : (k : Int) < (d.cons.length : Int) := by omega
     by_cases hzz:z≤2048
     · obtain ⟨u, hu, q, c9, us9, rfl, hq1, hq2, hq3, hq4⟩ := HZc.out.at (List.getElem?_eq_getElem hlt); obtain ⟨b, off, rfl, hb, hcs⟩ := HRc.out (fun e => by rw [e] at hu; simp at hu); have cc' := hcs k _ hu; rw [← fA HU.out hb] at cc'; have hb' := Nat.lt_of_lt_of_le hb HU.out.size; have HG := aA (HF.out.go hzz hlt); have HQ3 := aA hq3; have HQ4 := aA hq4; have HSc := aA (fun t (ht : t ∈ d.cons[k]) => HS.out.terms _ (List.getElem_mem hlt) t ht); have HOut := aA (fun j z (h : WtI d k d.cons[k] j z) (hj : j = d.cons[k].length ∨ 2048 < z) => h.out hlt hj); have hm9 : (d.cons[k].length : Int) ≤ 5864062014634 := by have := HS.out.con _ (List.getElem_mem hlt); omega
       clear hcs hu hq1 hq2 hq3 hq4 hb HZ0;generalize d.cons[k]=c at *;have hm0:(0:Int)≤(c.length:Int):=by omega
       go_wp2;go_loopw [3,5] (fun n i wr=>w2=wr∧∃(j:Nat) (z:Int),j≤c.length∧i = .int .i64 (j:Int)∧n = .int .i64 z∧WtI d k c j z) (fun _ i _=>c.length - (intOf i).toNat)
       case atStart=>exact⟨rfl,0,_,Nat.zero_le _,rfl,rfl,HG.out⟩
       case round =>
         obtain⟨rfl,j,z,hj,rfl,rfl,hz⟩:=hrel;have hj0:(0:Int)≤(j:Int):=by omega
         have hz1:=hz.1;have hz2:=hz.2.1;have HI:=aA hz;clear hz;by_cases hjl:j < c.length
         · have hjl' : (j : Int) < (c.length : Int) := by omega
           by_cases hzz:z≤2048
           · obtain ⟨y, hy, hyt⟩ := HQ4.out.at (List.getElem?_eq_getElem hjl); have HBk := aA (nGA (w0 := w2) c[j] (HSc.out _ (List.getElem_mem hjl)).1 (TermV.mono _ _ _ _ HU.out hyt)); obtain ⟨qy, cy, rfl, _⟩ := hyt; obtain ⟨b9, off9, rfl, hb9, hcs9⟩ := HQ3.out (fun e => by rw [e] at hy; simp at hy); have cc9 := hcs9 j _ hy; rw [← fA HU.out hb9] at cc9; have hb9' := Nat.lt_of_lt_of_le hb9 HU.out.size; have HGo := aA (fun y (h0 : 0 ≤ y) (h1 : y ≤ 1049600) (h2 : y ≤ 2048 → c[j].length ≤ 2048) => HI.out.go hzz hjl h0 h1 h2); clear hcs9 hy hb9; generalize c[j] = t at *; go_wp2_with fail; refine HBk.out.mono ?_; rintro e wx ⟨rfl, y, rfl, hy0, hy1, hy2⟩; have HW := aA (HGo.out y hy0 hy1 hy2); clear HGo HBk; go_wp2; go_roundw
             case rel=>exact⟨trivial,j+1,_,by omega,by go_num,rfl,HW.out⟩
             case measure=>simp[intOf];omega
           · have hzz' : 2048 < z := by omega
             have HW:=aA (HOut.out j z HI.out (.inr hzz'));clear hzz;go_wp2;go_roundw
             case rel=>exact⟨trivial,k+1,_,by omega,by go_num,rfl,HW.out⟩
             case measure=>simp[intOf];omega
         · have hjl' : ¬ (j : Int) < (c.length : Int) := by omega
           have HW:=aA (HOut.out j z HI.out (.inl (by omega)));go_wp2;go_roundw
           case rel=>exact⟨trivial,k+1,_,by omega,by go_num,rfl,HW.out⟩
           case measure=>simp[intOf];omega
     · have hzz' : 2048 < z := by omega
       clear hzz;go_wp2;go_ret;exact⟨HU.out,_,rfl,hz1,hz2,HF.out.out (.inr hzz')⟩
   · have hlt' : ¬ (k : Int) < (d.cons.length : Int) := by omega
     go_wp2;go_ret;exact⟨HU.out,_,rfl,hz1,hz2,HF.out.out (.inl (by omega))⟩
end
structure Fine (d:Dc):Prop where
 small:Small d
 lite:Lite d
 few:d.cons.length≤5864062014634∧d.cons.flatten.length≤5864062015658
 many:(aB d).length≤5864062015658
theorem nPA : ∀ l : List (List (List Nd)), (∀ c ∈ l, c.length ≤ 5864062014634) → bZ l ≤ 2047 → l.flatten.length = bZ l ∨ (1024 ≤ bZ l ∧ l.flatten.length + 1024 ≤ 5864062014634 + bZ l)
  | [],_,_=>.inl rfl
  | c :: l, h, hc => by
    have h1:=h c (List.mem_cons_self ..);have:=nPA l (fun x hx=>h x (List.mem_cons_of_mem _ hx)) (by simp only[bZ]at hc;omega);simp only[bZ,List.flatten_cons,List.length_append]at hc ⊢;omega
theorem f9A{d:Dc}(hw:WB d)(hs:SzD d):Lite d :=
 ⟨by have:=hw.type;omega,by have:=hw.body;omega,hs.cons,fun c hc=>⟨hs.con c hc,fun t ht=>by have:=hw.terms c hc t ht;omega⟩⟩
theorem tMA{d:Dc}(hw:WB d)(hs:SzD d):Fine d:=by
 have hf:d.cons.flatten.length≤5864062015658:=by
  have:=nPA d.cons hs.con hw.caps;have:=hw.caps;omega
 have ht:∀ t∈aB d,t.length≤2048∧gQ t:=by
  intro t ht;unfold aB at ht
  split at ht
  · simp only [List.mem_cons, List.not_mem_nil, or_false] at ht; rcases ht with rfl | rfl
    · exact⟨hw.type,hs.type⟩
    · exact⟨hw.body,hs.body⟩
  · split at ht
    · simp only[List.mem_cons,List.not_mem_nil,or_false]at ht;obtain rfl:=ht;exact⟨hw.type,hs.type⟩
    · split at ht
      · obtain⟨c,hc,ht⟩:=List.mem_flatten.1 ht;exact⟨hw.terms c hc t ht,hs.terms c hc t ht⟩
      · exact absurd ht (by simp)
 have hm:(aB d).length≤5864062015658:=by
  unfold aB
  split
  · simp
  · split
    · simp
    · split
      · exact hf
      · simp
 exact⟨⟨hs.name,hs.cons,hf,fun t h=>⟨by have:=(ht t h).1;omega,(ht t h).2.2⟩⟩,f9A hw hs,⟨hs.cons,hf⟩,hm⟩
section
variable {w0 : World}
theorem z6A{rb db j:Nat}{T:TypeId}{cs:Array Value}{v1 v2 x:Value}{t:List Nd}(hT:∀ w,Under w0 w→Calls Tryz.prog 103 #[.agg #[v1,v2],x] w (fWA w (.ok t)))(hB:BoxAt w0 db T cs)(hj:j < cs.size)(h1:v1.oneCell'=true)(h2:v2.oneCell'=true) :
 Calls Tryz.prog 72 #[.pointer (some ⟨rb,0,none⟩),.agg #[v1,v2],x,.pointer (some ⟨db,j,none⟩)] w0 fun e w=>e = .returned (.bool true)∧∃ u wm,Under w0 wm∧TermV wm u t∧w=wm.setCell ⟨db,j,none⟩ u:=by
 have HT:=aA (hT _ (bA (Under.refl w0) (.cells #[v1,v2] 52)));have HB:=aA hB;have HJ:=aA (show ∃ z,cs[j]? = some z from⟨_,Array.getElem?_eq_getElem hj⟩);clear hT hB hj;go_enter Tryz.func72,Tryz.ntmps72;go_wp2_with fail;refine HT.out.mono ?_;rintro e w1 ⟨hU1,u,rfl,hu⟩;have HV:=aA hu;have HU:=aA ((bA (Under.refl w0) _).trans hU1);have HB1:=aA ((HB.out.alloc _).under hU1);obtain⟨q,c,rfl,_⟩:=hu;obtain⟨z,hz⟩:=HJ.out;have cj:=(HB1.out.cell j).trans hz;have fj:=HB1.out.free j;have bl:=HB1.out.lt;clear hU1 hz HT HB;go_wp2;go_ret;exact⟨rfl,_,w1,HU.out,HV.out,rfl⟩
end
def nN(pos:Int):ST:=.word pos ⟨#[85,110,105,116]⟩
def unitT:List Nd:=[⟨16,0,0,⟨#[]⟩⟩]
section
variable {w0 : World}
theorem dSA{rb db b off m c:Nat}{pos at0 a1 a2:Int}{cs:Array Value}{q:Option Addr}{c1:Nat}(hr:BoxAt w0 rb 88 #[.slice none 0 0,.int .i64 a1,.int .i64 a2])(hB:BoxAt w0 db 33 cs)(hcs:3 < cs.size)(hn1:rb≠db)(hn2:b≠db)(hm:2 < m)(hp:w0.cell? ⟨b,off+2,none⟩=some (.slice q 1 c1))(hb:b < w0.heap.size)(hc1:1≤c1)(hq:SxArg w0 q (fC (nN pos)))(hE:StrcAt w0)(hS:ShapesAt 3 w0) :
 Calls Tryz.prog 73 #[.pointer (some ⟨rb,0,none⟩),.pointer (some ⟨db,0,none⟩),.slice (some ⟨b,off,none⟩) m c,.int .i64 at0] w0 fun e w=>e = .returned (.bool true)∧∃ u wm,Under w0 wm∧TermV wm u unitT∧w=wm.setCell ⟨db,3,none⟩ u:=by
 have HK:=aA (fun w=>kYA (w0:=w) (p:=none) (c:=0) [] (by simp) RowsV.nil);have HT:=aA (fun w (h:Under w0 w) (v1 v2:Option Addr) (d1 d2:Nat) (g1:TextsV w (.slice v1 0 d1) []) (g2:TextsV w (.slice v2 0 d2) [])=>m8A (w0:=w) (cap:=c1) (nN pos) (zUA pos _) [] [] (by unfold nN okS;decide) (by simp[nN,fC]) (by simpa [nN,fC] using hc1) (hq.under h) (by intro x hx;simp[nN,fC]at hx;subst hx;exact show(4:Nat)≤1000000 by omega) (hE.under h) (hS.under h) g1 g2 (by simp) (by simp));have HR:=aA hr;have HB:=aA (And.intro hB hcs);have r0:w0.cell? ⟨rb,0,none⟩=some (.slice none 0 0):=hr.cell 0;have rl:=hr.lt;have hm2:(2:Int) < (m:Int):=by omega
 clear hr hB hcs hq hE hS hc1 hm;go_enter Tryz.func73,Tryz.ntmps73;go_wp2_with fail;rename_i K0 hK0;refine wp_region_noPanic ?_;refine wp_region_held_drew (S:=fun w'=>w'.cell? ⟨rb,0,none⟩=some (.slice none 0 0)∧w'.cell? ⟨b,off+2,none⟩=some (.slice q 1 c1)) (by kernel_rfl) ⟨r0,hp⟩ (fun hHeld=>?_);refine dA 0 rfl ?_;refine dA 1 rfl ?_;refine dA 2 rfl ?_;refine dA 3 rfl ?_;refine dA 4 rfl ?_;refine dA 6 rfl ?_;refine dA 7 rfl ?_;refine dA 8 rfl ?_;refine dA 9 rfl ?_;refine dA 10 rfl ?_;refine dA 11 rfl ?_
 try walk_nrm
 refine yA 5 (by kernel_rfl) rfl fun K hK=>?_
 go_simp;go_at_call 18;refine(HK.out _).mono ?_;rintro e w1 ⟨vc,vd,rfl,hT2,hU1⟩;obtain⟨v1,d1,rfl,h1c,h10,h1r⟩:=TextsV.of_own hT2.one;obtain⟨v2,d2,rfl,h2c,h20,h2r⟩:=TextsV.of_own hT2.two;have HU1:=aA ((nA (Under.refl w0)).trans hU1);have HG1:=aA (show TextsV w1 (.slice v1 0 d1) [] from⟨v1,d1,rfl,h1c,h10,h1r⟩);have HG2:=aA (show TextsV w1 (.slice v2 0 d2) [] from⟨v2,d2,rfl,h2c,h20,h2r⟩);simp only[show knC []=[] from rfl,show knD []=[] from rfl,List.length_nil]at *;clear hT2 hU1 h1c h10 h1r h2c h20 h2r;refine hK.out _ _ ⟨(fA HU1.out rl 0).trans r0,(fA HU1.out hb _).trans hp⟩ (fun _=>?_);clear hK K hHeld;rename_i hHeld
 try walk_nrm
 have HC:=aA (z6A (w0:=w1) (rb:=rb) (fun w h=>HT.out w (HU1.out.trans h) v1 v2 d1 d2 (HG1.out.under h) (HG2.out.under h)) (HB.out.1.under HU1.out) HB.out.2 (v1:=.slice v1 0 d1) (v2:=.slice v2 0 d2) (x:=.slice q 1 c1) rfl rfl);refine yA 12 (by kernel_rfl) rfl fun K hK=>?_
 go_simp;go_at_call 72;refine HC.out.mono ?_;rintro e w2 ⟨rfl,u,wm,hU2,hu,rfl⟩;have HU2:=aA (HU1.out.trans hU2);have HV:=aA hu;clear hU2 hu;refine hK.out _ _ ⟨?_,?_⟩ (fun _=>?_)
 · rw[World.cell?_setCell_other _ _ _ _ (by intro h;simp only[Addr.mk.injEq]at h;omega)];exact(fA HU2.out rl 0).trans r0
 · rw[World.cell?_setCell_other _ _ _ _ (by intro h;simp only[Addr.mk.injEq]at h;omega)];exact(fA HU2.out hb _).trans hp
 clear hK K hHeld;rename_i hHeld
 try walk_nrm
 refine dA 13 rfl ?_
 try walk_nrm
 refine wpAnyH_done (by kernel_rfl) ?_ _;refine NoPanic.normal ?_;refine hK0 _ _ ?_;go_wp2;go_ret;exact⟨rfl,u,wm,HU2.out,HV.out,rfl⟩
end
structure OpH (T:TypeId) (w0:World) (cs ds:List ByteArray) (nb:Nat) (sc sd:Value) (w:World):Prop where
 box:BoxAt w nb T #[sc,sd]
 con:TextsV w sc cs
 dat:TextsV w sd ds
 und:Under w0 w
theorem OpH.under{T:TypeId}{w0:World}{cs ds:List ByteArray}{nb:Nat}{sc sd:Value}{w w':World}(h:OpH T w0 cs ds nb sc sd w)(hU:Under w w'):OpH T w0 cs ds nb sc sd w':=⟨h.box.under hU,h.con.under hU,h.dat.under hU,h.und.trans hU⟩
section
variable {w0 : World}
end
section
variable {W0 w0 : World} {d : Dc}
def DcR(B:Nat)(w:World)(cs:List Value)(d:Dc):Prop:=∃ vt vb vc,cs=[.int .i64 d.kind,.int .i64 d.level,.string d.name,vt,vb,vc]∧Ow1 B w vt d.type∧Ow1 B w vb d.body∧Ow3 B w vc d.cons
theorem DcR.under{B:Nat}{w w':World}{cs:List Value}{d:Dc}(h:DcR B w cs d)(hU:Under w w'):DcR B w' cs d:=by
 obtain⟨vt,vb,vc,e,h1,h2,h3⟩:=h;exact⟨vt,vb,vc,e,h1.under hU,h2.under hU,h3.under hU⟩
theorem DcR.base{B B':Nat}{w:World}{cs:List Value}{d:Dc}(h:DcR B w cs d)(hB:B'≤B):DcR B' w cs d:=by
 obtain⟨vt,vb,vc,e,h1,h2,h3⟩:=h;exact⟨vt,vb,vc,e,h1.base hB,h2.base hB,h3.base hB⟩
theorem DcR.grown{B:Nat}{w w':World}{cs:List Value}{d:Dc}(h:DcR B w cs d){b e s n:Nat}{v:Value}{xs:List Value}(k:w.ownsRow b e s v n xs)(hg:w.grownBy w' v.ownBlock)(he:112≠e)(he2:30≠e)(he3:96≠e):DcR B w' cs d:=by
 obtain⟨vt,vb,vc,e,h1,h2,⟨vs,h3,h4⟩⟩:=h;exact⟨vt,vb,vc,e,h1.grown k hg he,h2.grown k hg he,vs,vE h3 hg (own_ne h3 k he3),h4.mono fun v x h=>h.grown k hg he he2⟩
theorem DcR.row{B:Nat}{w:World}{cs:List Value}{d:Dc}(h:DcR B w cs d):DcRow w cs d:=by
 obtain⟨vt,vb,vc,e,h1,h2,h3⟩:=h;exact⟨vt,vb,vc,e,vP h1,vP h2,h3.cons⟩
theorem Tryz.infoDeclP:(Tryz.prog.info? 33).map (fun i=>(i.zero,i.size,i.bytes))=some (some (.agg #[.int .i64 0,.int .i64 0,.string ⟨#[]⟩,.slice none 0 0,.slice none 0 0,.slice none 0 0]),6,104):=by kernel_rfl
end
def kRA(rb fb db b off pc:Nat)(p:Int)(J:Nat→Value):Array Value:=#[.pointer (some ⟨rb,0,none⟩),J 1,J 2,J 3,J 4,J 5,J 6,.int .i64 p,.slice (some ⟨b,off,none⟩) 3 pc,J 9,.pointer (some ⟨fb,0,none⟩),.pointer (some ⟨db,0,none⟩),J 12,.bool false,J 14,J 15,J 16,J 17,J 18,J 19,J 20,J 21,J 22,J 23,J 24,J 25,J 26,J 27,J 28,J 29,J 30,J 31,J 32,J 33,J 34,J 35,J 36,J 37,J 38,J 39,J 40,J 41,J 42,J 43,J 44,J 45,J 46,J 47,J 48,J 49,J 50,J 51,J 52,J 53,J 54,J 55,J 56,J 57,J 58,J 59,J 60,J 61,J 62,J 63,J 64,J 65,J 66,J 67,J 68,J 69,J 70,J 71,J 72,J 73,J 74,J 75,J 76,J 77,J 78,J 79,J 80,J 81,J 82,J 83,J 84,J 85,J 86,J 87,J 88,J 89,J 90,J 91,J 92,J 93,J 94,J 95,J 96,J 97,J 98,J 99,J 100,J 101,J 102,J 103,J 104,J 105,J 106,J 107,J 108,J 109,J 110,J 111,J 112,J 113,J 114,J 115,J 116,J 117,J 118,J 119,J 120,J 121,J 122,J 123,J 124,J 125,J 126,J 127,J 128,J 129,J 130,J 131,J 132]
def q7A(rb:Nat)(J:Nat→Value):Array Value:=#[.pointer (some ⟨rb,0,none⟩),J 1,J 2,J 3,J 4,J 5,J 6,J 7,J 8,J 9,J 10,J 11,J 12,J 13,J 14,J 15,J 16,J 17,J 18,J 19,J 20,J 21,J 22,J 23,J 24,J 25,J 26,J 27,J 28,J 29,J 30,J 31,J 32,J 33,J 34,J 35,J 36,J 37,J 38,J 39,J 40,J 41,J 42,J 43,J 44,J 45,J 46,J 47,J 48,J 49,J 50,J 51,J 52,J 53,J 54,J 55,J 56,J 57,J 58,J 59,J 60,J 61,J 62,J 63,J 64,J 65,J 66,J 67,J 68,J 69,J 70,J 71,J 72,J 73,J 74,J 75,J 76,J 77,J 78,J 79,J 80,J 81,J 82,J 83,J 84,J 85,J 86,J 87,J 88,J 89,J 90,J 91,J 92,J 93,J 94,J 95,J 96,J 97,J 98,J 99,J 100,J 101,J 102,J 103,J 104,J 105,J 106,J 107,J 108,J 109,J 110,J 111,J 112,J 113,J 114,J 115,J 116,J 117,J 118,J 119,J 120,J 121,J 122,J 123,J 124,J 125,J 126,J 127,J 128,J 129,J 130,J 131,J 132]
noncomputable def dtPush:Code:=dB (qA (qA (qA (qA (qA (qA (qA (qA (qA (Tryz.f36.body.getD .skip))))))))))
def DvQ(w9:World)(rb:Nat)(e:Exit)(a':Act)(w':World):Prop:=e = .normal∧(∃ J,a'=⟨q7A rb J,[]⟩)∧∃ g c wm,Under w9 wm∧w9.heap.size≤g∧wm.cell? ⟨g,0,none⟩=some (.int .i64 2)∧w'=wm.setCell ⟨rb,0,none⟩ (.slice (some ⟨g,0,none⟩) 1 c)
section
variable {w9 : World}
theorem aAB{rb fb db b off pc nu cu:Nat}{p:Int}{pu:Option Addr}(hr:BoxAt w9 rb 88 #[.slice none 0 0,.int .i64 0,.int .i64 0])(hd:BoxAt w9 db 33 #[.int .i64 2,.int .i64 0,.string ⟨#[97]⟩,.slice pu nu cu,.slice none 0 0,.slice none 0 0])(hne:rb≠db)(J:Nat→Value) :
 dtPush.wp Tryz.prog (DvQ w9 rb) ⟨kRA rb fb db b off pc p J,[]⟩ w9:=by
 obtain ⟨j0, hj, hy0, hy1, hy2⟩ := info_parts Tryz.infoDeclP; have HR := aA hr; have HS := aA (fun w (h : Under w9 w) => (show w.cell? ⟨db, 0, none⟩ = some (.int .i64 2) ∧ w.cell? ⟨db, 1, none⟩ = some (.int .i64 0) ∧ w.cell? ⟨db, 2, none⟩ = some (.string ⟨#[97]⟩) ∧ w.cell? ⟨db, 3, none⟩ = some (.slice pu nu cu) ∧ w.cell? ⟨db, 4, none⟩ = some (.slice none 0 0) ∧ w.cell? ⟨db, 5, none⟩ = some (.slice none 0 0) from ⟨(hd.under h).cell 0, (hd.under h).cell 1, (hd.under h).cell 2, (hd.under h).cell 3, (hd.under h).cell 4, (hd.under h).cell 5⟩)); have HSo := aA (fun w u (h : Under w9 w) => (show (w.setCell ⟨rb, 0, none⟩ u).cell? ⟨db, 0, none⟩ = some (.int .i64 2) ∧ (w.setCell ⟨rb, 0, none⟩ u).cell? ⟨db, 1, none⟩ = some (.int .i64 0) ∧ (w.setCell ⟨rb, 0, none⟩ u).cell? ⟨db, 2, none⟩ = some (.string ⟨#[97]⟩) ∧ (w.setCell ⟨rb, 0, none⟩ u).cell? ⟨db, 3, none⟩ = some (.slice pu nu cu) ∧ (w.setCell ⟨rb, 0, none⟩ u).cell? ⟨db, 4, none⟩ = some (.slice none 0 0) ∧ (w.setCell ⟨rb, 0, none⟩ u).cell? ⟨db, 5, none⟩ = some (.slice none 0 0) from by
   have k:=(hd.under h).other (g:=rb) (fun e=>hne e.symm) 0 u;exact⟨k.cell 0,k.cell 1,k.cell 2,k.cell 3,k.cell 4,k.cell 5⟩))
 have hS0:=HS.out w9 (Under.refl _);clear hr hd hne;unfold dtPush;simp only[Tryz.f36,Option.getD_some,dB,qA];unfold kRA;refine wp_region_noPanic ?_;refine wp_region_held_drew (S:=fun w=>w.cell? ⟨db,0,none⟩=some (.int .i64 2)∧w.cell? ⟨db,1,none⟩=some (.int .i64 0)∧w.cell? ⟨db,2,none⟩=some (.string ⟨#[97]⟩)∧w.cell? ⟨db,3,none⟩=some (.slice pu nu cu)∧w.cell? ⟨db,4,none⟩=some (.slice none 0 0)∧w.cell? ⟨db,5,none⟩=some (.slice none 0 0)) (by kernel_rfl) hS0 (fun hHeld=>?_);refine dA 0 rfl ?_;refine dA 1 rfl ?_;refine dA 2 rfl ?_;refine dA 3 rfl ?_;refine dA 5 rfl ?_
 try walk_nrm
 refine oM 4 6 (by kernel_rfl) rfl rfl (fun K hK=>?_) (fun K hK=>?_)
 · have r0 : (w9.drew).cell? ⟨rb, 0, none⟩ = some (.slice none 0 0) := HR.out.cell 0; go_simp; refine hK.out _ _ hHeld (fun _ => ?_); clear hK K hHeld; rename_i hHeld
   try walk_nrm
   refine yA 6 (by kernel_rfl) rfl fun K hK=>?_
   go_simp;have HUb:=aA (nA (bA (Under.refl w9) (.cells #[.int .i64 2,.int .i64 0,.string ⟨#[97]⟩,.slice pu nu cu,.slice none 0 0,.slice none 0 0] 33)));refine hK.out _ _ (HS.out _ HUb.out) (fun _=>?_);clear hK K hHeld;rename_i hHeld
   try walk_nrm
   refine yA 7 (by kernel_rfl) rfl fun K hK=>?_
   refine step_append_lies _ (by rfl) _ _ _ (by rfl) w9.heap.size 33 j0 _ 6 104 Tryz.underlying22 hj hy0 hy1 hy2 rfl (by omega) (.slice none 0 0) 0 [] (by rfl) (lF _ _ _ _)
     ⟨w9.heap.size,0,none⟩ 1 1 [.int .i64 2,.int .i64 0,.string ⟨#[97]⟩,.slice pu nu cu,.slice none 0 0,.slice none 0 0] (by rfl) (by rfl) (World.news_of_block (cs:=#[.int .i64 2,.int .i64 0,.string ⟨#[97]⟩,.slice pu nu cu,.slice none 0 0,.slice none 0 0]) (t:=33) (fr:=(0,0)) (heap_alloc_new _ _)) (by simp[Value.oneCell'])
     (by omega) (by decide) (by decide) (by simp) (w9.heap.size+1) (by simp) ?_
   intro gg cc w5 hown hgrow hat hlt;have HU5:=aA (xA HUb.out hgrow fun g e=>by cases e);have HG:=aA (And.intro (jB hown rfl).1 (eD (j:=0) hown rfl rfl));clear hown hgrow hat hlt;refine hK.out _ _ (HS.out _ HU5.out) (fun _=>?_);clear hK K hHeld;rename_i hHeld
   try walk_nrm
   refine dA 8 rfl ?_;refine dA 9 rfl ?_
   try walk_nrm
   have HRb:=aA (HR.out.under HU5.out);have y1:=HRb.out.lt;have y2:=HRb.out.free 0;have y3:=HRb.out.cell 0;refine yA 10 (by kernel_rfl) rfl fun K hK=>?_
   go_simp;refine hK.out _ _ (HSo.out _ _ HU5.out) (fun _=>?_);clear hK K hHeld;rename_i hHeld
   try walk_nrm
   refine wpAnyH_done (by kernel_rfl) ?_ _;refine NoPanic.normal ?_;exact⟨rfl,⟨_,nD (F:=q7A rb) (by rfl)⟩,gg,cc,w5,HU5.out,HG.out.1,HG.out.2,rfl⟩
 · go_simp; have HUb := aA (nA (bA (Under.refl w9) (.cells #[.int .i64 2, .int .i64 0, .string ⟨#[97]⟩, .slice pu nu cu, .slice none 0 0, .slice none 0 0] 33))); refine hK.out _ _ (HS.out _ HUb.out) (fun _ => ?_); clear hK K hHeld; rename_i hHeld
   try walk_nrm
   have r0:((w9.alloc (.cells #[.int .i64 2,.int .i64 0,.string ⟨#[97]⟩,.slice pu nu cu,.slice none 0 0,.slice none 0 0] 33)).drew).cell? ⟨rb,0,none⟩=some (.slice none 0 0):=(HR.out.under HUb.out).cell 0;refine yA 4 (by kernel_rfl) rfl fun K hK=>?_
   go_simp;refine hK.out _ _ (HS.out _ HUb.out) (fun _=>?_);clear hK K hHeld;rename_i hHeld
   try walk_nrm
   refine yA 7 (by kernel_rfl) rfl fun K hK=>?_
   refine step_append_lies _ (by rfl) _ _ _ (by rfl) w9.heap.size 33 j0 _ 6 104 Tryz.underlying22 hj hy0 hy1 hy2 rfl (by omega) (.slice none 0 0) 0 [] (by rfl) (lF _ _ _ _)
     ⟨w9.heap.size,0,none⟩ 1 1 [.int .i64 2,.int .i64 0,.string ⟨#[97]⟩,.slice pu nu cu,.slice none 0 0,.slice none 0 0] (by rfl) (by rfl) (World.news_of_block (cs:=#[.int .i64 2,.int .i64 0,.string ⟨#[97]⟩,.slice pu nu cu,.slice none 0 0,.slice none 0 0]) (t:=33) (fr:=(0,0)) (heap_alloc_new _ _)) (by simp[Value.oneCell'])
     (by omega) (by decide) (by decide) (by simp) (w9.heap.size+1) (by simp) ?_
   intro gg cc w5 hown hgrow hat hlt;have HU5:=aA (xA HUb.out hgrow fun g e=>by cases e);have HG:=aA (And.intro (jB hown rfl).1 (eD (j:=0) hown rfl rfl));clear hown hgrow hat hlt;refine hK.out _ _ (HS.out _ HU5.out) (fun _=>?_);clear hK K hHeld;rename_i hHeld
   try walk_nrm
   refine dA 8 rfl ?_;refine dA 9 rfl ?_
   try walk_nrm
   have HRb:=aA (HR.out.under HU5.out);have y1:=HRb.out.lt;have y2:=HRb.out.free 0;have y3:=HRb.out.cell 0;refine yA 10 (by kernel_rfl) rfl fun K hK=>?_
   go_simp;refine hK.out _ _ (HSo.out _ _ HU5.out) (fun _=>?_);clear hK K hHeld;rename_i hHeld
   try walk_nrm
   refine wpAnyH_done (by kernel_rfl) ?_ _;refine NoPanic.normal ?_;exact⟨rfl,⟨_,nD (F:=q7A rb) (by rfl)⟩,gg,cc,w5,HU5.out,HG.out.1,HG.out.2,rfl⟩
end
def vHA(k n:Int)(f:Nat):Value:=.agg #[.int .i64 k,.int .i64 n,.func (.func f) #[] #[]]
def mMA:zH:=[(⟨#[100,101,102]⟩,vHA 1 4 71),(⟨#[97,120,105,111,109]⟩,vHA 2 3 73),(⟨#[105,110,100,117,99,116,105,118,101]⟩,vHA 3 3 74)]
section
variable {w0 : World}
theorem pVA:Calls Tryz.prog 37 #[] w0 fun e w=>e = .returned (.map (some w0.heap.size))∧MapAt w w0.heap.size mMA∧Under w0 w:=by
 have hmm:=@run_makeMap Tryz.prog;have hM:=sMA w0;have hU:=bA (Under.refl w0) (.map #[] 0);go_enter Tryz.func37,Tryz.ntmps37;go_wp2_with (refine gJ rfl _ _ _ (.inl rfl) Tryz.underlying90 Tryz.underlying9 rfl hM rfl rfl ?_;intro w1 hM1 hT1;replace hU:=hT1.under hU (Nat.le_refl _);replace hM:=hM1;clear hM1 hT1);go_ret;exact⟨rfl,hM,hU⟩
end
section
variable {w0 : World}
theorem gBA(T:ST){q:Option Addr}{cap:Nat}(hn:(fC T).length≤1000000)(hq:SxArg w0 q (fC T)):Calls Tryz.prog 68 #[.slice q (fC T).length cap] w0 fun e w=>e = .returned (sxV T.last)∧Under w0 w:=by
 obtain⟨init,hi⟩:=xY T;obtain⟨b,off,rfl,hb,ht⟩:=hq (by rw[hi];simp);obtain⟨c0,c1,c2⟩:=ht init.length T.last (by rw[hi];simp);have hl:(fC T).length=init.length+1:=by rw[hi];simp
 rw[hl]at hn ⊢;generalize T.last=x at *;generalize init.length=m at *;have hmi:((m:Int)+1 - 1)=(m:Int):=by omega
 have hm1:(m:Int)≤1000000:=by omega
 have hm0:(0:Int)≤(m:Int):=by omega
 clear hi ht hl hn;go_enter Tryz.func68,Tryz.ntmps68;go_wp2;refine bodyPost_ret (v:=sxV x) ?_ rfl ⟨rfl,bA (Under.refl _) _⟩;simp[results,Tryz.f68,go_sem,sxV]
end
def tJ(p p1 p2 p3:Int):ST:=.list p [.word p1 ⟨#[97,120,105,111,109]⟩,.word p2 ⟨#[97]⟩,nN p3]
theorem xBB(w:World):(zeroValue 131).run Tryz.prog w = .ok (.agg #[.int .i64 0,.int .i64 0,.nilFunc]) w:=by kernel_rfl
def a9A(rb fb db b off pc:Nat)(p:Int)(J:Nat→Value):Array Value:=#[.pointer (some ⟨rb,0,none⟩),J 1,J 2,J 3,J 4,J 5,J 6,.int .i64 p,.slice (some ⟨b,off,none⟩) 3 pc,J 9,.pointer (some ⟨fb,0,none⟩),.pointer (some ⟨db,0,none⟩),J 12,J 13,J 14,J 15,J 16,J 17,J 18,J 19,J 20,J 21,J 22,J 23,J 24,J 25,J 26,J 27,J 28,J 29,J 30,J 31,J 32,J 33,J 34,J 35,J 36,J 37,J 38,J 39,J 40,J 41,J 42,J 43,J 44,J 45,J 46,J 47,J 48,J 49,J 50,J 51,J 52,J 53,J 54,J 55,J 56,J 57,J 58,J 59,J 60,J 61,J 62,J 63,J 64,J 65,J 66,J 67,J 68,J 69,J 70,J 71,J 72,J 73,J 74,J 75,J 76,J 77,J 78,J 79,J 80,J 81,J 82,J 83,J 84,J 85,J 86,J 87,J 88,J 89,J 90,J 91,J 92,J 93,J 94,J 95,J 96,J 97,J 98,J 99,J 100,J 101,J 102,J 103,J 104,J 105,J 106,J 107,J 108,J 109,J 110,J 111,J 112,J 113,J 114,J 115,J 116,J 117,J 118,J 119,J 120,J 121,J 122,J 123,J 124,J 125,J 126,J 127,J 128,J 129,J 130,J 131,J 132]
def lEB:Array Value:=#[.int .i64 2,.int .i64 0,.string ⟨#[97]⟩,.slice none 0 0,.slice none 0 0,.slice none 0 0]
def DtQ(w4:World)(rb fb b off pc:Nat)(p:Int)(e:Exit)(a':Act)(w':World):Prop:=e = .normal∧∃ db,(∃ J,a'=⟨a9A rb fb db b off pc p J,[]⟩)∧BoxAt w' db 33 lEB∧Under w4 w'∧w4.heap.size≤db
def DuQ(w4:World)(rb fb db b off pc:Nat)(p:Int)(e:Exit)(a':Act)(w':World):Prop:=e = .normal∧(∃ J,a'=⟨kRA rb fb db b off pc p J,[]⟩)∧Under w4 w'
section
variable {w0 : World}
theorem oUA{rb mb cap:Nat}{p p1 p2 p3:Int}{q:Option Addr}(hr:BoxAt w0 rb 88 #[.slice none 0 0,.int .i64 0,.int .i64 0])(hm:MapAt w0 mb mMA)(hcap:4≤cap)(hq:SxArg w0 q (fC (tJ p p1 p2 p3)))(hE:StrcAt w0)(hS:ShapesAt 3 w0) :
 Calls Tryz.prog 36 #[.pointer (some ⟨rb,0,none⟩),.map (some mb),.slice q 4 cap] w0 fun e w=>e = .returned (.bool true)∧∃ g c wm,Under w0 wm∧g≠rb∧w0.heap.size≤g∧wm.cell? ⟨g,0,none⟩=some (.int .i64 2)∧w=wm.setCell ⟨rb,0,none⟩ (.slice (some ⟨g,0,none⟩) 1 c):=by
 have hf:(fC (tJ p p1 p2 p3)).length=4:=rfl;have HL:=aA (gBA (w0:=w0) (cap:=cap) (tJ p p1 p2 p3) (q:=q) (by rw[hf];omega) hq);rw[hf,show(tJ p p1 p2 p3).last=⟨3,p,⟨#[]⟩⟩ from rfl]at HL;have HP:=aA (fun w (h:Under w0 w)=>tXA (w0:=w) (cap:=cap) (fC (tJ p p1 p2 p3)) (p:=q) (by rw[hf];omega) hcap (hq.under h));have hpl:vM (fC (tJ p p1 p2 p3))=some [fC (.word p1 ⟨#[97,120,105,111,109]⟩),fC (.word p2 ⟨#[97]⟩),fC (nN p3)]:=gUA (by simp only[oMA,okS,nN];decide);rw[hf,hpl]at HP;clear hf hpl hq;have HF1:=fun(a b:Int) (s:ByteArray) (w:World)=>(show(Instr.field 28 (.agg #[.int .i64 a,.int .i64 b,.string s]) 1).run Tryz.prog w = .ok (.int .i64 b) w by kernel_rfl)
 have HF2:=fun(a b:Int) (s:ByteArray) (w:World)=>(show(Instr.field 28 (.agg #[.int .i64 a,.int .i64 b,.string s]) 2).run Tryz.prog w = .ok (.string s) w by kernel_rfl)
 have HR:=aA hr;have HM:=aA hm;go_enter Tryz.func36,Tryz.ntmps36;go_wp2_with fail;refine HL.out.mono ?_;rintro e w1 ⟨rfl,hU1⟩;simp only[sxV];have HU:=aA hU1;clear hU1 HL;go_wp2_with fail;refine(HP.out _ HU.out).mono ?_;rintro e w2 ⟨hU2,vo,vs,rfl,h1,h2⟩;obtain⟨pq,pc,rfl,hrows⟩:=mQA h1 h2;obtain⟨b,off,rfl,hb,hcs⟩:=hrows (by simp);obtain⟨q0,c0,a0,ac0,aq0⟩:=hcs 0 _ rfl;obtain⟨q1,c1,a1,ac1,aq1⟩:=hcs 1 _ rfl;obtain⟨q2,c2,a2,ac2,aq2⟩:=hcs 2 _ rfl;have HU2:=aA (HU.out.trans hU2);have HA:=aA (fun w (h:Under w2 w)=>And.intro ((fA h hb _).trans a0) (And.intro ((fA h hb _).trans a1) ((fA h hb _).trans a2)));have HQ0:=aA (fun w (h:Under w2 w)=>gBA (w0:=w) (cap:=c0) (.word p1 ⟨#[97,120,105,111,109]⟩) (q:=q0) (by simp[fC]) (aq0.under h));have HQ1:=aA (fun w (h:Under w2 w)=>gBA (w0:=w) (cap:=c1) (.word p2 ⟨#[97]⟩) (q:=q1) (by simp[fC]) (aq1.under h));have HQ2:=aA (And.intro ac2 aq2);have hl3:([fC (.word p1 ⟨#[97,120,105,111,109]⟩),fC (.word p2 ⟨#[97]⟩),fC (nN p3)]:List (List Sx)).length=3:=rfl;have hn0:(fC (.word p1 ⟨#[97,120,105,111,109]⟩)).length=1:=rfl;have hn1:(fC (.word p2 ⟨#[97]⟩)).length=1:=rfl;have hn2:(fC (nN p3)).length=1:=rfl;rw[hl3];rw[hn0]at a0 HQ0;rw[hn1]at a1 HQ1;rw[hn2]at a2;have HMU:=aA (HM.out.under HU2.out);have HRU:=aA (HR.out.under HU2.out);rw[Nat.add_zero]at a0;have HES:=aA (And.intro hE hS);clear hr hm hE hS hcap;clear h1 h2 hrows hcs ac0 aq0 ac1 aq1 ac2 aq2 hU2 HP HM HR HU hl3;go_wp2_with fail;refine(HQ0.out _ (Under.refl _)).mono ?_;rintro e w3 ⟨rfl,hU3⟩;simp only[sxV,ST.last];have HU3:=aA hU3;have a1':=(fA hU3 hb _).trans a1;have hb3:=Nat.lt_of_lt_of_le hb hU3.size;clear hU3 a0 a1 a2 HQ0;have HFrm:=aA (rA w3 #[.int .i64 2,.int .i64 3,.func (.func 73) #[] #[]] 131);have HMU3:=aA (HMU.out.under HU3.out);go_wp2_with (refine zD rfl _ _ true rfl Tryz.underlying90 Tryz.underlying9 (xBB _) rfl HMU3.out rfl ?_;rw[show pM mMA ⟨#[97,120,105,111,109]⟩=some (vHA 2 3 73) by kernel_rfl];simp only[Option.getD_some,Option.isSome_some,if_true,vHA]);have HU4:=aA (bA HU3.out (.cells #[.int .i64 2,.int .i64 3,.func (.func 73) #[] #[]] 131));obtain⟨w4,hw4⟩:∃ w4,w4=w3.alloc (.cells #[.int .i64 2,.int .i64 3,.func (.func 73) #[] #[]] 131):=⟨_,rfl⟩;have HF4:=aA (show BoxAt w4 w3.heap.size 131 #[.int .i64 2,.int .i64 3,.func (.func 73) #[] #[]] by rw[hw4];exact HFrm.out);rw[← hw4]at HU4 ⊢;clear hw4;generalize w3.heap.size=fb at *;clear HU3 HFrm HMU3 HMU a1' hb3;have f0:=HF4.out.cell 0;have fl:=HF4.out.lt;have a1':w4.cell? ⟨b,off+1,none⟩=some (.slice q1 1 c1):=(HA.out _ HU4.out).2.1;have hb4:=Nat.lt_of_lt_of_le hb HU4.out.size;rename_i K0 hK0;refine wp_mono (Q:=DtQ w4 rb fb b off pc p) ?_ ?_
 · clear hK0 HA HQ2 HRU HES HU2 hn0 hn1 hn2 HF1; refine wp_region_noPanic ?_; refine wp_region_held_drew (S := fun w' => w'.cell? ⟨fb, 0, none⟩ = some (.int .i64 2) ∧ w'.cell? ⟨b, off + 1, none⟩ = some (.slice q1 1 c1)) (by kernel_rfl) ⟨f0, a1'⟩ (fun hHeld => ?_); refine dA 0 rfl ?_; refine dA 1 rfl ?_; refine dA 2 rfl ?_; refine dA 3 rfl ?_; refine dA 4 rfl ?_
   try walk_nrm
   refine oM 5 8 (by kernel_rfl) rfl rfl (fun K hK=>?_) (fun K hK=>?_)
   · go_simp; go_at_call 68; refine (HQ1.out _ (nA HU4.out)).mono ?_; rintro e w5 ⟨rfl, HU5⟩; simp only [sxV, ST.last]; have HU5' := aA ((nA (Under.refl w4)).trans HU5); clear HU5; refine hK.out _ _ ⟨(fA HU5'.out fl 0).trans f0, (fA HU5'.out hb4 _).trans a1'⟩ (fun _ => ?_); clear hK K hHeld; rename_i hHeld
     try walk_nrm
     refine dA 6 rfl ?_;refine dA 7 rfl ?_
     try walk_nrm
     refine yA 8 (by kernel_rfl) rfl fun K hK=>?_
     go_simp;refine hK.out _ _ ⟨(fA (bA HU5'.out _) fl 0).trans f0,(fA (bA HU5'.out _) hb4 _).trans a1'⟩ (fun _=>?_);clear hK K hHeld;rename_i hHeld
     try walk_nrm
     refine yA 9 (by kernel_rfl) rfl fun K hK=>?_
     go_simp;refine hK.out _ _ ⟨(fA (bA HU5'.out _) fl 0).trans f0,(fA (bA HU5'.out _) hb4 _).trans a1'⟩ (fun _=>?_);clear hK K hHeld;rename_i hHeld
     try walk_nrm
     refine wpAnyH_done (by kernel_rfl) ?_ _;refine NoPanic.normal ?_;exact⟨rfl,w5.heap.size,⟨_,nD (F:=a9A rb fb w5.heap.size b off pc p) (by rfl)⟩,rA w5 _ _,bA HU5'.out _,HU5'.out.size⟩
   · go_simp; have HUa := aA (nA (bA (Under.refl w4) (.cells #[.int .i64 0, .int .i64 0, .string ⟨#[]⟩, .slice none 0 0, .slice none 0 0, .slice none 0 0] 33))); refine hK.out _ _ ⟨(fA HUa.out fl 0).trans f0, (fA HUa.out hb4 _).trans a1'⟩ (fun _ => ?_); clear hK K hHeld; rename_i hHeld
     try walk_nrm
     refine yA 5 (by kernel_rfl) rfl fun K hK=>?_
     go_simp;go_at_call 68;refine(HQ1.out _ (HU4.out.trans HUa.out)).mono ?_;rintro e w5 ⟨rfl,HU5⟩;simp only[sxV,ST.last];have HU5':=aA (HUa.out.trans HU5);have HB:=aA (((rA w4 #[.int .i64 0,.int .i64 0,.string ⟨#[]⟩,.slice none 0 0,.slice none 0 0,.slice none 0 0] 33).under (nA (Under.refl _))).under HU5);clear HU5;refine hK.out _ _ ⟨(fA HU5'.out fl 0).trans f0,(fA HU5'.out hb4 _).trans a1'⟩ (fun _=>?_);clear hK K hHeld;rename_i hHeld
     try walk_nrm
     refine dA 6 rfl ?_;refine dA 7 rfl ?_
     try walk_nrm
     refine yA 9 (by kernel_rfl) rfl fun K hK=>?_
     have d0:=HB.out.cell 0;have d1:=HB.out.cell 1;have d2:=HB.out.cell 2;have d3:=HB.out.cell 3;have d4:=HB.out.cell 4;have d5:=HB.out.cell 5;have g0:=HB.out.free 0;have g1:=HB.out.free 1;have g2:=HB.out.free 2;have g3:=HB.out.free 3;have g4:=HB.out.free 4;have g5:=HB.out.free 5;have dl:=HB.out.lt;go_simp;clear d0 d1 d2 d3 d4 d5 g0 g1 g2 g3 g4 g5 dl;obtain⟨wf,hwf⟩:∃ wf,wf=(((((w5.setCell ⟨w4.heap.size,0,none⟩ (.int .i64 2)).setCell ⟨w4.heap.size,1,none⟩ (.int .i64 0)).setCell ⟨w4.heap.size,2,none⟩ (.string ⟨#[97]⟩)).setCell ⟨w4.heap.size,3,none⟩ (.slice none 0 0)).setCell ⟨w4.heap.size,4,none⟩ (.slice none 0 0)).setCell ⟨w4.heap.size,5,none⟩ (.slice none 0 0):=⟨_,rfl⟩;have HF:=aA (show BoxAt wf w4.heap.size 33 lEB by rw[hwf];exact(((((HB.out.set 0 _).set 1 _).set 2 _).set 3 _).set 4 _).set 5 _);have HUf:=aA (show Under w4 wf by rw[hwf];exact bC (bC (bC (bC (bC (bC HU5'.out (Nat.le_refl _) _ _) (Nat.le_refl _) _ _) (Nat.le_refl _) _ _) (Nat.le_refl _) _ _) (Nat.le_refl _) _ _) (Nat.le_refl _) _ _);rw[← hwf];clear hwf;refine hK.out _ _ ⟨(fA HUf.out fl 0).trans f0,(fA HUf.out hb4 _).trans a1'⟩ (fun _=>?_);clear hK K hHeld;rename_i hHeld
     try walk_nrm
     refine wpAnyH_done (by kernel_rfl) ?_ _;refine NoPanic.normal ?_;exact⟨rfl,w4.heap.size,⟨_,nD (F:=a9A rb fb w4.heap.size b off pc p) (by rfl)⟩,HF.out,HUf.out,Nat.le_refl _⟩
 rintro e a' w6 ⟨rfl,db,⟨J,rfl⟩,hdb,hU6,hge⟩;have HDb:=aA hdb;have HU6:=aA (HU4.out.trans hU6);have HF6:=aA (HF4.out.under hU6);have HGe:=aA (Nat.le_trans HU4.out.size hge);refine hK0 _ _ ?_;clear hU6 hge hdb hK0 f0 fl a1' hb4 HQ1;unfold a9A;go_wp2_with fail;rename_i K0 hK0;refine wp_mono (Q:=DuQ w6 rb fb db b off pc p) ?_ ?_
 · clear hK0 HA HQ2 HES HU2 hn0 hn1 hn2 HF1; have HRw := aA (HRU.out.under HU6.out); have r0 := HRw.out.cell 0; have rl := HRw.out.lt; have d2 := HDb.out.cell 2; have dl := HDb.out.lt; have HFd := aA (fun w => n2A (w0 := w) (p := none) (c := 0) [] ⟨#[97]⟩ (by simp) (by simp) RowsV.nil); refine wp_region_noPanic ?_; refine wp_region_held_drew (S := fun w' => w'.cell? ⟨rb, 0, none⟩ = some (.slice none 0 0) ∧ w'.cell? ⟨db, 2, none⟩ = some (.string ⟨#[97]⟩)) (by kernel_rfl) ⟨r0, d2⟩ (fun hHeld => ?_); refine dA 0 rfl ?_; refine dA 1 rfl ?_; refine dA 2 rfl ?_; refine dA 3 rfl ?_; refine dA 4 rfl ?_; refine dA 5 rfl ?_
   try walk_nrm
   refine oM 6 10 (by kernel_rfl) rfl rfl (fun K hK=>?_) (fun K hK=>?_)
   · go_simp; go_at_call 16; refine (HFd.out _).mono ?_; rintro e w7 ⟨v7, rfl, ⟨vt, vb, vc, rfl, ⟨x1, y1, rfl, _⟩, ⟨x2, y2, rfl, _⟩, ⟨x3, y3, us3, rfl, _⟩⟩, hU7⟩; simp only [show l7 ⟨#[97]⟩ [] = none from rfl, Option.isSome_none, Option.getD_none, dcNo, List.length_nil] at *; have HU7 := aA ((nA (Under.refl w6)).trans hU7); clear hU7; refine hK.out _ _ ⟨(fA HU7.out rl 0).trans r0, (fA HU7.out dl _).trans d2⟩ (fun _ => ?_); clear hK K hHeld; rename_i hHeld
     try walk_nrm
     refine dA 7 rfl ?_;refine dA 8 rfl ?_;refine dA 9 rfl ?_
     try walk_nrm
     refine yA 10 (by kernel_rfl) rfl fun K hK=>?_
     go_simp;refine hK.out _ _ ⟨(fA (bA HU7.out _) rl 0).trans r0,(fA (bA HU7.out _) dl _).trans d2⟩ (fun _=>?_);clear hK K hHeld;rename_i hHeld
     try walk_nrm
     refine yA 11 (by kernel_rfl) rfl fun K hK=>?_
     go_simp;refine hK.out _ _ ⟨(fA (bA HU7.out _) rl 0).trans r0,(fA (bA HU7.out _) dl _).trans d2⟩ (fun _=>?_);clear hK K hHeld;rename_i hHeld
     try walk_nrm
     refine dA 12 rfl ?_
     try walk_nrm
     refine wpAnyH_done (by kernel_rfl) ?_ _;refine NoPanic.normal ?_;exact⟨rfl,⟨_,nD (F:=kRA rb fb db b off pc p) (by rfl)⟩,bA HU7.out _⟩
   · go_simp; have HUa := aA (nA (bA (Under.refl w6) (.cells #[.int .i64 0, .int .i64 0, .string ⟨#[]⟩, .slice none 0 0, .slice none 0 0, .slice none 0 0] 33))); refine hK.out _ _ ⟨(fA HUa.out rl 0).trans r0, (fA HUa.out dl _).trans d2⟩ (fun _ => ?_); clear hK K hHeld; rename_i hHeld
     try walk_nrm
     refine yA 6 (by kernel_rfl) rfl fun K hK=>?_
     go_simp;go_at_call 16;refine(HFd.out _).mono ?_;rintro e w7 ⟨v7,rfl,⟨vt,vb,vc,rfl,⟨x1,y1,rfl,_⟩,⟨x2,y2,rfl,_⟩,⟨x3,y3,us3,rfl,_⟩⟩,hU7⟩;simp only[show l7 ⟨#[97]⟩ []=none from rfl,Option.isSome_none,Option.getD_none,dcNo,List.length_nil]at *;have HU7:=aA (HUa.out.trans hU7);have HB:=aA (((rA w6 #[.int .i64 0,.int .i64 0,.string ⟨#[]⟩,.slice none 0 0,.slice none 0 0,.slice none 0 0] 33).under (nA (Under.refl _))).under hU7);clear hU7;refine hK.out _ _ ⟨(fA HU7.out rl 0).trans r0,(fA HU7.out dl _).trans d2⟩ (fun _=>?_);clear hK K hHeld;rename_i hHeld
     try walk_nrm
     refine dA 7 rfl ?_;refine dA 8 rfl ?_;refine dA 9 rfl ?_
     try walk_nrm
     refine yA 11 (by kernel_rfl) rfl fun K hK=>?_
     have d0:=HB.out.cell 0;have d1:=HB.out.cell 1;have d2':=HB.out.cell 2;have d3:=HB.out.cell 3;have d4:=HB.out.cell 4;have d5:=HB.out.cell 5;have g0:=HB.out.free 0;have g1:=HB.out.free 1;have g2:=HB.out.free 2;have g3:=HB.out.free 3;have g4:=HB.out.free 4;have g5:=HB.out.free 5;have dl':=HB.out.lt;go_simp;have HUf:=aA (bC (bC (bC (bC (bC (bC HU7.out (Nat.le_refl _) 0 (.int .i64 0)) (Nat.le_refl _) 1 (.int .i64 0)) (Nat.le_refl _) 2 (.string ⟨#[]⟩)) (Nat.le_refl _) 3 (.slice x1 0 y1)) (Nat.le_refl _) 4 (.slice x2 0 y2)) (Nat.le_refl _) 5 (.slice x3 0 y3));refine hK.out _ _ ⟨(fA HUf.out rl 0).trans r0,(fA HUf.out dl _).trans d2⟩ (fun _=>?_);clear hK K hHeld;rename_i hHeld
     try walk_nrm
     refine dA 12 rfl ?_
     try walk_nrm
     refine wpAnyH_done (by kernel_rfl) ?_ _;refine NoPanic.normal ?_;exact⟨rfl,⟨_,nD (F:=kRA rb fb db b off pc p) (by rfl)⟩,HUf.out⟩
 rintro e a' w7 ⟨rfl,⟨J,rfl⟩,hU7⟩;have HU7:=aA (HU6.out.trans hU7);have HDb:=aA (HDb.out.under hU7);have HF7:=aA (HF6.out.under hU7);refine hK0 _ _ ?_;clear hU7 hK0 HF4 HF6 HU4 HU6;unfold kRA;have HNm:=aA (fun w=>iKA (w0:=w) ⟨#[97]⟩ (by decide));rw[show tN ⟨#[97]⟩=true by kernel_rfl]at HNm;have d2:w7.cell? ⟨db,2,none⟩=some (.string ⟨#[97]⟩):=HDb.out.cell 2;have dl:=HDb.out.lt;go_wp2_with fail;refine(HNm.out _).mono ?_;rintro e w8 ⟨rfl,hU8⟩;have HU8:=aA (HU7.out.trans hU8);have HD8:=aA (HDb.out.under hU8);have HF8:=aA (HF7.out.under hU8);clear hU8 d2 dl HNm HDb HF7 HU7;have HR8:=aA (HRU.out.under HU8.out);have r0:w8.cell? ⟨rb,0,none⟩=some (.slice none 0 0):=HR8.out.cell 0;have rl:=HR8.out.lt;have f2:w8.cell? ⟨fb,2,none⟩=some (.func (.func 73) #[] #[]):=HF8.out.cell 2;have fl:=HF8.out.lt;have HFm:=aA (dSA (at0:=p) (m:=3) (c:=pc) HR8.out HD8.out (by decide) (by have:=HRU.out.lt;have:=HGe.out;omega) (by have:=HGe.out;omega) (by decide) ((HA.out _ HU8.out).2.2) (Nat.lt_of_lt_of_le hb HU8.out.size) (by have:=HQ2.out.1;omega) (HQ2.out.2.under HU8.out) (HES.out.1.under (HU2.out.trans HU8.out)) (HES.out.2.under (HU2.out.trans HU8.out)));go_wp2_with fail;refine HFm.out.mono ?_;rintro e w9 ⟨rfl,u,wm,hUm,⟨pu,cu,rfl,_⟩,rfl⟩;have HUm:=aA (show Under w0 (wm.setCell ⟨db,3,none⟩ (.slice pu unitT.length cu)) from bC (HU2.out.trans (HU8.out.trans hUm)) (Nat.le_trans HU2.out.size HGe.out) _ _);have HD9:=aA (show BoxAt (wm.setCell ⟨db,3,none⟩ (.slice pu unitT.length cu)) db 33 #[.int .i64 2,.int .i64 0,.string ⟨#[97]⟩,.slice pu unitT.length cu,.slice none 0 0,.slice none 0 0] from(HD8.out.under hUm).set 3 _);have HR9:=aA ((HR8.out.under hUm).other (g:=db) (by have:=HRU.out.lt;have:=HGe.out;omega) 3 (.slice pu unitT.length cu));generalize wm.setCell ⟨db,3,none⟩ (.slice pu unitT.length cu)=w9 at *;have HNe:=aA (show rb≠db by have:=HRU.out.lt;have:=HGe.out;omega);clear hUm HFm r0 rl f2 fl HD8 HF8 HR8 HES HU8 HRU HGe HA HQ2 HDb;generalize unitT.length=nu at *;have HPu:=aA (fun J=>aAB (fb:=fb) (b:=b) (off:=off) (pc:=pc) (p:=p) HR9.out HD9.out HNe.out J);go_wp2_with fail;rename_i K0 hK0;refine wp_mono (Q:=DvQ w9 rb) ?_ ?_
 · exact vV (F:=kRA rb fb db b off pc p) (by rfl) HPu.out
 rintro e a' w' ⟨rfl,⟨J,rfl⟩,g,c,wp,hUp,hg,hc,rfl⟩;have HUp:=aA (HUm.out.trans hUp);have HG:=aA (And.intro hg (And.intro hc HR9.out.lt));have HGz:=aA HUm.out.size;clear hUp hg hc;refine hK0 _ _ ?_;unfold q7A;go_wp2;go_ret;exact⟨rfl,g,c,wp,HUp.out,by have:=HG.out.1;have:=HG.out.2.2;omega,Nat.le_trans HGz.out HG.out.1,HG.out.2.1,rfl⟩
end
end Go.Proofs.YtggjbblgoddnjaaGreatDoor
namespace Go.Proofs.YtggjbblgoddnjaaGreatDoor
open Go.Conc Go.Lx Go.RowKit
def Tok.p(t:Tok):PTok:=⟨t.kind,t.at_,t.text⟩
theorem mPA(all:List Tok):∀ k t,all[k]? = some t→(oI all)[k * 3]? = some (.int .i64 t.kind)∧(oI all)[k * 3+1]? = some (.int .i64 (t.at_:Int))∧(oI all)[k * 3+2]? = some (.string t.text):=by
 induction all with
 | nil=>intro k t h;simp at h
 | cons x l ih =>
   intro k t h
   cases k with
   | zero=>cases h;exact⟨rfl,rfl,rfl⟩
   | succ k =>
     have:=ih k t h;rw[show(k+1) * 3=k * 3+1+1+1 by omega,show k * 3+1+1+1+1=(k * 3+1)+1+1+1 by omega,show k * 3+1+1+1+2=(k * 3+2)+1+1+1 by omega];exact this
def ReadPost(W:World)(R:Except (Int×Int) (List Sx))(v:Value)(w:World):Prop :=
 Under W w∧match R with
  | .ok row=>∃ vr,v = .tuple #[vr,.int .i64 0,.int .i64 0]∧w.ownsRow W.heap.size 28 3 vr row.length (bE row)
  | .error (p,c)=>v = .tuple #[.slice none 0 0,.int .i64 p,.int .i64 c]
theorem pCB{w:World}{base:Nat}{e:TypeId}{size n:Nat}{v:Value}{xs:List Value}(h:w.ownsRow base e size v n xs)(τ:Nat→Question→Nat)(d:Nat):(re w τ d).ownsRow base e size v n xs:=h
theorem ReadPost.re{W:World}{R:Except (Int×Int) (List Sx)}(v:Value)(w:World)(τ:Nat→Question→Nat)(d:Nat)(h:ReadPost W R v w):ReadPost W R v (re w τ d):=by
 obtain⟨h1,h2⟩:=h;refine⟨h1.re τ d,?_⟩
 cases R with
 | error p=>exact h2
 | ok row=>obtain⟨vr,e,h3⟩:=h2;exact⟨vr,e,pCB h3 τ d⟩
theorem p8A{W w:World}{l:Value}{all:List Tok}(h:w.ownsRow W.heap.size 197 3 l all.length (oI all)):∃ p cap,l = .slice p all.length cap∧aUA w p (all.map Tok.p):=by
 rcases h.2 with⟨rfl,h0⟩ | ⟨g,cap,cur,rfl,hb,hg,rest⟩
 · refine⟨none,0,by rw[h0],fun hne=>?_⟩;have:all=[]:=List.length_eq_zero_iff.1 h0;subst this;exact absurd rfl hne
 · refine⟨_,cap,rfl,fun _=>⟨g,0,rfl,(Array.getElem?_eq_some_iff.1 hg).1,fun k t ht=>?_⟩⟩;rw[List.getElem?_map]at ht;obtain⟨u,hu,rfl⟩:=Option.map_eq_some_iff.1 ht;obtain⟨h1,h2,h3⟩:=mPA all k u hu;rw[Nat.zero_add];exact⟨eD h rfl h1,eD h rfl h2,eD h rfl h3⟩
theorem mZ{P:Program}{fn:Func}{t u r:Tmp}{Post:Value→World→Prop}{a:Act}{w:World}(h:fn.results=#[.tmp t,.tmp u,.tmp r])(hd:a.defers=[])(hp:Post (.tuple #[a.tmps.getD t undef,a.tmps.getD u undef,a.tmps.getD r undef]) w):xS P fn Post .ret a w :=
 ⟨hd,_,fun _ _=>results_tmp3 h _ P _,hp⟩
theorem zTA{s:ByteArray}{all:List Tok}(h:Lexes s all)(hk:∀ t∈all,t.kind=1∨t.kind=2∨t.kind=3)(W:World) :
 CallsG Tryz.prog 65 #[.string s] W (ReadPost W (wF (all.map Tok.p) [] [] ⟨0,0,⟨#[]⟩⟩)):=by
 refine bK rC Tryz.func65 rfl ?_ ReadPost.re;simp only[Tryz.ntmps65,List.size_toArray,List.length_cons,List.length_nil,Nat.reduceAdd,Nat.reduceSub,Array.replicate_succ,Array.replicate_zero,List.push_toArray,List.append_toArray,List.nil_append,List.cons_append];refine dH rC (jE rC fun τ d=>?_);go_wp2;refine lK ?_ τ d;refine dH rC ?_;refine rW rC 1 (by decide) fun τ d=>?_
 simp only[List.take_succ_cons,List.take_zero];go_wp2;refine cXA ?_ τ d;refine zI (i:=1) (rest:=List.range' 2 7) rC rfl (by rfl) (qG (vs:=#[.string s]) rfl Tryz.func101 (by kernel_rfl) rfl (by simp[Act.eval])) (h.calls W) ?_;rintro v w1 ⟨l,rfl,hown,hU1⟩;obtain⟨p,cap,rfl,hp⟩:=p8A hown;have hlen:(all.map Tok.p).length≤1000000:=by rw[List.length_map];exact h.len
 have hkk:∀ t∈all.map Tok.p,t.kind=1∨t.kind=2∨t.kind=3:=by
  intro t ht;obtain⟨u,hu,rfl⟩:=List.mem_map.1 ht;exact hk u hu
 have hc:=fun τ d=>hXA (w0:=re w1 τ d) (cap:=cap) (all.map Tok.p) hlen hp hkk
 simp only[List.length_map]at hc;have HC:=aA hc;clear hc;clear hown hp hkk hlen hk h;generalize wF (all.map Tok.p) [] [] ⟨0,0,⟨#[]⟩⟩=R at *;refine bF rC 2 7 0 (by decide) fun τ d=>?_
 simp only[List.drop_succ_cons,List.drop_zero,List.take_succ_cons,List.take_zero];walk_nrm;go_wp2;refine uG rC ?_;simp only[Exit.then];refine lK ?_ τ d;refine jE rC fun τ d=>?_
 go_wp2_with fail;refine(HC.out τ d).mono ?_;rintro e w2 ⟨hU2,hR⟩;have hUU:Under W w2:=hU1.trans ⟨hU2.os,hU2.output,hU2.size,hU2.low⟩;have hz:W.heap.size≤(re w1 τ d).heap.size:=hU1.size
 cases R with
 | ok row =>
   obtain⟨vr,rfl,ho⟩:=hR;have HO:=aA ho;clear ho;go_wp2;exact mZ rfl rfl ⟨hUU,vr,rfl,j3 HO.out hz⟩
 | error pc =>
   obtain⟨p',c⟩:=pc;subst hR;go_wp2;exact mZ rfl rfl ⟨hUU,rfl⟩
end Go.Proofs.YtggjbblgoddnjaaGreatDoor
