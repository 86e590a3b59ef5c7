/- Part 20 of what the proof rests on. -/
import Derived.Test.YtggjbblgoddnjaaGreatDoorRows
import Derived.Conc.Holds
import Derived.KernelRfl
import Derived.Test.YtggjbblgoddnjaaGreatDoorM04
import Derived.Test.YtggjbblgoddnjaaGreatDoorM11
import Derived.Test.YtggjbblgoddnjaaGreatDoorM17
import Derived.Test.YtggjbblgoddnjaaGreatDoorM18
import Derived.Test.YtggjbblgoddnjaaGreatDoorM00
set_option linter.unusedSimpArgs false
set_option linter.unusedVariables false
set_option maxRecDepth 100000
set_option maxHeartbeats 4000000
namespace Go.Proofs.YtggjbblgoddnjaaGreatDoor
open Go.Conc Go.Lx Go.RowKit
noncomputable def spRest:Code:=qA (qA (Tryz.f7.body.getD .skip))
def SpQ(W:World)(e:Exit)(a:Act)(w:World):Prop:=xS Tryz.prog Tryz.f7 (TrueU W) e a w
def tCB(x:Int)(s:ByteArray)(b1 b2:Nat)(J:Nat→Value):Array Value:=#[J 0,J 1,.int .u16 x,.string s,.pointer (some ⟨b1,0,none⟩),.pointer (some ⟨b2,0,none⟩),J 6,J 7,J 8,J 9,J 10,J 11,J 12,J 13,J 14,J 15,J 16,J 17,J 18,J 19,J 20,J 21,J 22,J 23,J 24,J 25,J 26,J 27,J 28,J 29,J 30,J 31,J 32,J 33,J 34,J 35,J 36,J 37,J 38,J 39,J 40,J 41,J 42,J 43,J 44,J 45,J 46,J 47,J 48,J 49,J 50,J 51,J 52,J 53,J 54,J 55,J 56,J 57,J 58,J 59,J 60,J 61,J 62,J 63,J 64,J 65,J 66,J 67,J 68,J 69,J 70,J 71,J 72,J 73,J 74,J 75,J 76,J 77,J 78,J 79,J 80,J 81,J 82,J 83,J 84,J 85,J 86,J 87,J 88,J 89,J 90,J 91,J 92,J 93,J 94,J 95,J 96,J 97,J 98,J 99]
theorem aT{a b:ByteArray}(h:a.toList=b.toList):a=b:=by
 rw[ByteArray.toList_eq,ByteArray.toList_eq]at h;exact ByteArray.ext (Array.toList_inj.1 h)
theorem g9A{x y:Nd}(h:aO x y=true):x=y:=by
 unfold aO at h;simp only[Bool.and_eq_true,beq_iff_eq]at h;obtain⟨h1,h2,h3,h4⟩:=h;obtain⟨k,n,m,s⟩:=x;obtain⟨k',n',m',s'⟩:=y;obtain rfl:=aT h4;simp only at h1 h2 h3;subst h1 h2 h3;rfl
theorem tZ : ∀ {a b : List Nd}, uI a b = true → a = b
  | [],[],_=>rfl
  | x :: a, y :: b, h => by
    simp only[uI,Bool.and_eq_true]at h;rw[g9A h.1,tZ h.2]
  | x::a,[],h=>by cases h
  | [],y::b,h=>by cases h
theorem cKA : ∀ {a b : List (List Nd)}, vJ a b = true → a = b
  | [],[],_=>rfl
  | x :: a, y :: b, h => by
    simp only[vJ,Bool.and_eq_true]at h;rw[tZ h.1,cKA h.2]
  | x::a,[],h=>by cases h
  | [],y::b,h=>by cases h
theorem aOA : ∀ {a b : List (List (List Nd))}, uL a b = true → a = b
  | [],[],_=>rfl
  | x :: a, y :: b, h => by
    simp only[uL,Bool.and_eq_true]at h;rw[cKA h.1,aOA h.2]
  | x::a,[],h=>by cases h
  | [],y::b,h=>by cases h
theorem t6A{d c:Dc}(h:kQ d c=true):d=c:=by
 unfold kQ at h;simp only[Bool.and_eq_true,beq_iff_eq]at h;obtain⟨h1,h2,h3,h4,h5,h6⟩:=h;obtain⟨k,l,n,t,b,cs⟩:=d;obtain⟨k',l',n',t',b',cs'⟩:=c;simp only at h1 h2 h3 h4 h5 h6;obtain rfl:=aT h3;obtain rfl:=tZ h4;obtain rfl:=tZ h5;obtain rfl:=aOA h6;subst h1 h2;rfl
theorem j2A{d c:Dc}(hd:kF d=0)(hc:kF c=0):((xD d).toList==(xD c).toList)=kQ d c:=by
 cases h:kQ d c with
 | true=>rw[t6A h];simp
 | false =>
   cases h2:((xD d).toList==(xD c).toList) with
   | false=>rfl
   | true =>
     have:=l8A hd hc (aT (by simpa using h2));rw[this,hGA]at h
     cases h
theorem n8A{d:Dc}{k:Nat}(h:kF d=0)(hk:k < (xD d).size):vH ((xD d).extract 0 k)=none:=by
 refine mXA (b:=(xD d).data.toList.drop k) (xW h) ?_ ?_
 · rw[bOA];exact(List.take_append_drop _ _).symm
 · intro e;have:=congrArg List.length e;rw[List.length_drop]at this;have h2:(xD d).data.toList.length=(xD d).size:=rfl;simp only[List.length_nil]at this;omega
theorem m5A{d:Dc}{s:ByteArray}(h:kF d=0):((if(vH (xD d++s)).isSome=true then(0:Int) else 50)=0∧s=⟨#[]⟩)∨((if(vH (xD d++s)).isSome=true then(0:Int) else 50)=50∧s.toList.isEmpty=false):=by
 by_cases hs:s.size=0
 · obtain rfl : s = ⟨#[]⟩ := aT (by rw [ByteArray.toList_eq, ByteArray.toList_eq]; exact List.length_eq_zero_iff.1 hs)
   left
   rw[show xD d++(⟨#[]⟩:ByteArray)=xD d from ByteArray.ext (by simp),xW h];exact⟨rfl,rfl⟩
 · right
   have hn:s.data.toList≠[]:=fun e=>hs (congrArg List.length e)
   rw[iHA (s:=xD d) (b:=s.data.toList) (xW h) (by simp) hn];refine⟨rfl,?_⟩;rw[ByteArray.toList_eq]
   simpa using hn
section
variable {W w : World}
theorem r9A {na nb' nt nb nc ct cb cc nt' nbb nc' ct' cb' cc' : Nat} {d c : Dc} {x : Int} {s : ByteArray} {pt pb pc pt' pb' pc' : Option Addr} (hx0 : 0 ≤ x) (hx1 : x ≤ 65535) (hf : Fine d) (hf' : Fine c) (hT : ∀ t ∈ aB d, t.length ≤ 2048) (hT' : ∀ t ∈ aB c, t.length ≤ 2048) (hs : s.size ≤ 100)
    (hv:DcV w (.agg #[.int .i64 d.kind,.int .i64 d.level,.string d.name,.slice pt nt ct,.slice pb nb cb,.slice pc nc cc]) d) (hc:DcV w (.agg #[.int .i64 c.kind,.int .i64 c.level,.string c.name,.slice pt' nt' ct',.slice pb' nbb cb',.slice pc' nc' cc']) c) (hb:BoxAt w na 33 #[.int .i64 d.kind,.int .i64 d.level,.string d.name,.slice pt nt ct,.slice pb nb cb,.slice pc nc cc]) (hb':BoxAt w nb' 33 #[.int .i64 c.kind,.int .i64 c.level,.string c.name,.slice pt' nt' ct',.slice pb' nbb cb',.slice pc' nc' cc']) (hS:ShapesAt 3 w) (hF:FieldsAll 0 w) (hU:Under W w) (J:Nat→Value) :
    spRest.wp Tryz.prog (SpQ W) ⟨tCB x s na nb' J,[]⟩ w:=by
  have HEn := aA (fun w' (h : Under w w') => eQ (w0 := w') hf.small (fun t ht => by have := hT t ht; omega) (DcV.mono _ _ _ _ h hv) (hS.under h) (nO (hF.under h))); have HEc := aA (fun w' (h : Under w w') => eQ (w0 := w') hf'.small (fun t ht => by have := hT' t ht; omega) (DcV.mono _ _ _ _ h hc) (hS.under h) (nO (hF.under h))); have HRn := aA (fun w' (h : Under w w') => yQ (w0 := w') hf.small hf.few hf.many (fun t ht => by have := hT t ht; omega) (DcV.mono _ _ _ _ h hv)); have HTh := aA (fun w' (h : Under w w') => yK (w0 := w') d (DcV.mono _ _ _ _ h hv)); have HTc := aA (fun w' (h : Under w w') => yK (w0 := w') c (DcV.mono _ _ _ _ h hc)); have HSm := aA (fun w' (h : Under w w') => zFA (w0 := w') d c hf.lite (DcV.mono _ _ _ _ h hv) (DcV.mono _ _ _ _ h hc)); have HDc := aA (fun w' (h : Under w w') k => iO (w0 := w') ((xD d).extract 0 k) (by have := yY d; rw [ByteArray.size_extract]; omega) (hS.under h) (hF.under h)); have HDm := aA (fun w' (h : Under w w') => iO (w0 := w') (xD d ++ s) (by
    have:=yY d;rw[ByteArray.size_append];omega) (hS.under h) (hF.under h))
  have HBa:=aA hb;have HBc:=aA hb';have HU:=aA hU;have HX:=aA (And.intro hx0 hx1);have HSs:=aA hs;have HCu:=aA (fun k (h:kF d=0) (hk:k < (xD d).size)=>n8A h hk);have HMo:=aA (fun(h:kF d=0)=>m5A (s:=s) h);have HSa:=aA (fun(h:kF d=0) (h':kF c=0)=>j2A h h');have HLe:=aA (fun(h:kF d=0)=>zJA h);have HEm:=aA (fun(h:¬ kF d=0)=>fIA h);unfold tT at HDc HDm;unfold yM at HEn HRn HEc;generalize xD c=BC at *;generalize kF c=EC at *;generalize kQ d c=SD at *;generalize (vH (xD d++s)).getD dcNo=z at *;generalize (if(vH (xD d++s)).isSome=true then(0:Int) else 50)=c1 at *;generalize xD d=BB at *;generalize kF d=E at *;have n0:=HBa.out.cell 0;have n1:=HBa.out.cell 1;have n2:=HBa.out.cell 2;have n3:=HBa.out.cell 3;have n4:=HBa.out.cell 4;have n5:=HBa.out.cell 5;have nl:=HBa.out.lt;clear hf hf' hT hT' hs hv hc hb hb' hS hF hU hx0 hx1;generalize hQ:SpQ W=Q;have HQ:=aA hQ;clear hQ;unfold spRest;simp only[Tryz.f7,Option.getD_some,qA];unfold tCB;go_wp2_with fail;refine(HEn.out _ (Under.refl _)).mono ?_;rintro e w1 ⟨rfl,hU1⟩;have HU1:=aA hU1;clear n0 n1 n2 n3 n4 n5 nl;have HB1:=aA (HBa.out.under hU1);have n0:=HB1.out.cell 0;have n1:=HB1.out.cell 1;have n2:=HB1.out.cell 2;have n3:=HB1.out.cell 3;have n4:=HB1.out.cell 4;have n5:=HB1.out.cell 5;have nl:=HB1.out.lt;clear hU1 HEn;go_wp2_with fail;refine(HTh.out _ HU1.out).mono ?_;rintro e w2 ⟨rfl,hU2⟩;have HU2:=aA (HU1.out.trans hU2);clear hU2 n0 n1 n2 n3 n4 n5 nl HB1;go_wp2_with fail;refine(HRn.out _ HU2.out).mono ?_;rintro e w3 ⟨rfl,hU3⟩;have HU3:=aA (HU2.out.trans hU3);clear hU3 HRn HU1 HU2;have hEE:(E != E)=false:=by simp
  by_cases hE:E=0
  case neg =>
    have hE':(E != 0)=true:=by simpa using hE
    obtain rfl:=HEm.out hE;clear hE;go_wp2;rw[← HQ.out];exact uH rfl rfl ⟨rfl,HU.out.trans HU3.out⟩
  subst hE;have HCv:=aA (fun k (h:k < BB.size)=>HCu.out k rfl h);have HMp:=aA (HMo.out rfl);have HSb:=aA (fun(h:EC=0)=>HSa.out rfl h);have HLf:=aA (HLe.out rfl);clear HCu HMo HSa HLe HEm;have HB1:=aA (HBc.out.under HU3.out);have n0:=HB1.out.cell 0;have n1:=HB1.out.cell 1;have n2:=HB1.out.cell 2;have n3:=HB1.out.cell 3;have n4:=HB1.out.cell 4;have n5:=HB1.out.cell 5;have nl:=HB1.out.lt;go_wp2_with fail;refine(HEc.out _ HU3.out).mono ?_;rintro e w4 ⟨rfl,hU4⟩;have HU4:=aA (HU3.out.trans hU4);clear hU4 HEc HU3 n0 n1 n2 n3 n4 n5 nl HB1;obtain⟨X,hX⟩:=Int.eq_ofNat_of_zero_le HX.out.1;subst hX;have hX1:=HX.out.2;have hn1:=HLf.out.1;have hn2:=HLf.out.2;have hwx:IntKind.i64.wrap (X:Int)=(X:Int):=by rw[IntKind.wrap_i64];omega
  have hmod:(X:Int).tmod (BB.size:Int)=((X % BB.size:Nat):Int):=by rw[Int.tmod_eq_emod_of_nonneg (by omega)];first | exact(Int.natCast_emod _ _).symm | exact(Int.ofNat_emod _ _).symm | rfl
  have hk:X % BB.size < BB.size:=Nat.mod_lt _ hn1;have hne:((BB.size:Int)==0)=false:=beq_eq_false_iff_ne.2 (by omega);have hne2:¬(BB.size:Int)=0:=by omega
  have HDk:=aA (HDc.out w4 HU4.out (X % BB.size));have HCk:=aA (HCv.out (X % BB.size) hk);generalize X % BB.size=k at *;have hwk:IntKind.i64.wrap (k:Int)=(k:Int):=by rw[IntKind.wrap_i64];omega
  have hk0:(0:Int)≤(k:Int):=by omega
  have hk1:(k:Int)≤(BB.size:Int):=by omega
  rw[HCk.out]at HDk;simp only[Option.isSome_none,Option.getD_none,Bool.false_eq_true,if_false]at HDk;clear hn1 hk HCv HDc;go_wp2_with fail;refine HDk.out.mono ?_;rintro e w5 ⟨v5,rfl,hv5,hU5⟩;obtain⟨vt,vb,vc,rfl,⟨p5,c5,rfl,_⟩,⟨q5,k5,rfl,_⟩,⟨r5,m5,us5,rfl,_⟩⟩:=hv5;have HU5:=aA ((HU4.out.trans hU5).trans (bA (Under.refl w5) (.cells #[.int .i64 dcNo.kind,.int .i64 dcNo.level,.string dcNo.name,.slice p5 dcNo.type.length c5,.slice q5 dcNo.body.length k5,.slice r5 dcNo.cons.length m5] 33)));have hz:¬ 9223372036854775807 < BB.size+s.size:=by have:=HSs.out;omega
  clear hU5 HDk HU4 hwx hmod hne hne2 hwk hk0 hk1 HCk hn2 hX1;go_wp2_with fail;refine(HDm.out _ HU5.out).mono ?_;rintro e w6 ⟨v6,rfl,hv6,hU6⟩;obtain⟨vt,vb,vc,rfl,⟨p6,c6,rfl,_⟩,⟨q6,k6,rfl,_⟩,⟨r6,m6,us6,rfl,_⟩⟩:=hv6;have HU6:=aA ((HU5.out.trans hU6).trans (bA (Under.refl w6) (.cells #[.int .i64 z.kind,.int .i64 z.level,.string z.name,.slice p6 z.type.length c6,.slice q6 z.body.length k6,.slice r6 z.cons.length m6] 33)));clear hU6 HDm HU5;obtain⟨w7,hw7⟩:∃ w7,w7=w6.alloc (.cells #[.int .i64 z.kind,.int .i64 z.level,.string z.name,.slice p6 z.type.length c6,.slice q6 z.body.length k6,.slice r6 z.cons.length m6] 33):=⟨_,rfl⟩;rw[← hw7]at HU6;have HW7:=aA hw7;clear hw7;have hq:((c1==0)==s.toList.isEmpty)=true:=by
   rcases HMp.out with⟨h1,h2⟩ | ⟨h1,h2⟩
   · rw[h1,h2,ByteArray.toList_eq];rfl
   · rw[h1,h2];rfl
  by_cases hEc:EC=0
  · subst hEc; have HS := aA (fun w' (h : Under w7 w') => (show w'.cell? ⟨na, 0, none⟩ = some (.int .i64 d.kind) ∧ w'.cell? ⟨na, 1, none⟩ = some (.int .i64 d.level) ∧ w'.cell? ⟨na, 2, none⟩ = some (.string d.name) ∧ w'.cell? ⟨na, 3, none⟩ = some (.slice pt nt ct) ∧ w'.cell? ⟨na, 4, none⟩ = some (.slice pb nb cb) ∧ w'.cell? ⟨na, 5, none⟩ = some (.slice pc nc cc) ∧ w'.cell? ⟨nb', 0, none⟩ = some (.int .i64 c.kind) ∧ w'.cell? ⟨nb', 1, none⟩ = some (.int .i64 c.level) ∧ w'.cell? ⟨nb', 2, none⟩ = some (.string c.name) ∧ w'.cell? ⟨nb', 3, none⟩ = some (.slice pt' nt' ct') ∧ w'.cell? ⟨nb', 4, none⟩ = some (.slice pb' nbb cb') ∧ w'.cell? ⟨nb', 5, none⟩ = some (.slice pc' nc' cc') from ⟨(HBa.out.under (HU6.out.trans h)).cell 0, (HBa.out.under (HU6.out.trans h)).cell 1, (HBa.out.under (HU6.out.trans h)).cell 2, (HBa.out.under (HU6.out.trans h)).cell 3, (HBa.out.under (HU6.out.trans h)).cell 4, (HBa.out.under (HU6.out.trans h)).cell 5, (HBc.out.under (HU6.out.trans h)).cell 0, (HBc.out.under (HU6.out.trans h)).cell 1, (HBc.out.under (HU6.out.trans h)).cell 2, (HBc.out.under (HU6.out.trans h)).cell 3, (HBc.out.under (HU6.out.trans h)).cell 4, (HBc.out.under (HU6.out.trans h)).cell 5⟩)); have hsa : ((BB.toList == BC.toList) == SD) = true := by rw [HSb.out rfl]; simp
    have la:na < w7.heap.size:=(HBa.out.under HU6.out).lt;have lc:nb' < w7.heap.size:=(HBc.out.under HU6.out).lt;go_wp2_with fail;rename_i K0 hK0;rw[← HW7.out];refine wp_region_noPanic ?_;refine wp_region_held_drew (S:=fun w'=>w'.cell? ⟨na,0,none⟩=some (.int .i64 d.kind)∧w'.cell? ⟨na,1,none⟩=some (.int .i64 d.level)∧w'.cell? ⟨na,2,none⟩=some (.string d.name)∧w'.cell? ⟨na,3,none⟩=some (.slice pt nt ct)∧w'.cell? ⟨na,4,none⟩=some (.slice pb nb cb)∧w'.cell? ⟨na,5,none⟩=some (.slice pc nc cc)∧w'.cell? ⟨nb',0,none⟩=some (.int .i64 c.kind)∧w'.cell? ⟨nb',1,none⟩=some (.int .i64 c.level)∧w'.cell? ⟨nb',2,none⟩=some (.string c.name)∧w'.cell? ⟨nb',3,none⟩=some (.slice pt' nt' ct')∧w'.cell? ⟨nb',4,none⟩=some (.slice pb' nbb cb')∧w'.cell? ⟨nb',5,none⟩=some (.slice pc' nc' cc')) (by kernel_rfl) (HS.out _ (nA (Under.refl _))) (fun hHeld=>?_);refine dA 0 rfl ?_;refine dA 1 rfl ?_;refine dA 2 rfl ?_;refine dA 3 rfl ?_;refine dA 4 rfl ?_;refine dA 5 rfl ?_;refine dA 6 rfl ?_;refine dA 8 rfl ?_
    try walk_nrm
    refine yA 7 (by kernel_rfl) rfl fun K hK=>?_
    go_simp;go_at_call 14;refine(HTh.out _ (nA HU6.out)).mono ?_;rintro e w11 ⟨rfl,hU⟩;have HU11:=aA ((nA (Under.refl w7)).trans hU);clear hU;refine hK.out _ _ (HS.out _ HU11.out) (fun _=>?_);clear hK K hHeld;rename_i hHeld
    try walk_nrm
    refine yA 9 (by kernel_rfl) rfl fun K hK=>?_
    go_simp;go_at_call 14;refine(HTc.out _ (HU6.out.trans HU11.out)).mono ?_;rintro e w12 ⟨rfl,hU⟩;have HU12:=aA (HU11.out.trans hU);clear hU;refine hK.out _ _ (HS.out _ HU12.out) (fun _=>?_);clear hK K hHeld;rename_i hHeld
    try walk_nrm
    refine yA 10 (by kernel_rfl) rfl fun K hK=>?_
    go_simp;go_at_call 13;refine(HSm.out _ (HU6.out.trans HU12.out)).mono ?_;rintro e w13 ⟨rfl,hU⟩;have HU13:=aA (HU12.out.trans hU);clear hU;refine hK.out _ _ (HS.out _ HU13.out) (fun _=>?_);clear hK K hHeld;rename_i hHeld
    try walk_nrm
    refine dA 11 rfl ?_;refine dA 12 rfl ?_
    try walk_nrm
    refine wpAnyH_done (by kernel_rfl) ?_ _;refine NoPanic.normal ?_;have HW13:=aA (HU6.out.trans HU13.out);clear HS HU11 HU12 HU13 la lc hHeld HU6 HW7;refine hK0 _ _ ?_;clear hK0 K0;go_wp2;rw[← HQ.out];exact uH rfl rfl ⟨rfl,HU.out.trans HW13.out⟩
  · have hEc' : (EC == 0) = false := by simpa using hEc
    clear hEc;go_wp2_with fail;rw[← HW7.out];go_quiet (fail);go_wp2;rw[← HQ.out];exact uH rfl rfl ⟨rfl,HU.out.trans (bB HU6.out _)⟩
end
theorem pSA(d c:Dc)(x:Int)(s:ByteArray){v v':Value}(W:World)(hx0:0≤x)(hx1:x≤65535)(hsd:SzD d)(hsc:SzD c)(hv:DcV W v d)(hc:DcV W v' c)(hE:StrcAt W)(hS:ShapesAt 3 W)(hF:FieldsAll 0 W) :
 CallsG Tryz.prog 7 #[v,v',.int .u16 x,.string s] W (TrueU W):=by
 have HV:=aA hv;have HV':=aA hc;obtain⟨vt,vb,vc,rfl,⟨pt,ct,rfl,_⟩,⟨pb,cb,rfl,_⟩,⟨pc,cc,us,rfl,_⟩⟩:=hv;obtain⟨vt',vb',vc',rfl,⟨pt',ct',rfl,_⟩,⟨pb',cb',rfl,_⟩,⟨pc',cc',us',rfl,_⟩⟩:=hc;refine bK rC Tryz.func7 rfl ?_ TrueU.re;simp only[Tryz.ntmps7,List.size_toArray,List.length_cons,List.length_nil,Nat.reduceAdd,Nat.reduceSub,Array.replicate_succ,Array.replicate_zero,List.push_toArray,List.append_toArray,List.nil_append,List.cons_append];refine dH rC (jE rC fun τ d9=>?_);go_wp2;have HB0:=aA ((rA (re W τ d9) #[.int .i64 d.kind,.int .i64 d.level,.string d.name,.slice pt d.type.length ct,.slice pb d.body.length cb,.slice pc d.cons.length cc] 33).alloc (.cells #[.int .i64 c.kind,.int .i64 c.level,.string c.name,.slice pt' c.type.length ct',.slice pb' c.body.length cb',.slice pc' c.cons.length cc'] 33));have HC0:=aA (rA ((re W τ d9).alloc (.cells #[.int .i64 d.kind,.int .i64 d.level,.string d.name,.slice pt d.type.length ct,.slice pb d.body.length cb,.slice pc d.cons.length cc] 33)) #[.int .i64 c.kind,.int .i64 c.level,.string c.name,.slice pt' c.type.length ct',.slice pb' c.body.length cb',.slice pc' c.cons.length cc'] 33);have HU0:=aA (bA (bA ((Under.refl W).re τ d9) (.cells #[.int .i64 d.kind,.int .i64 d.level,.string d.name,.slice pt d.type.length ct,.slice pb d.body.length cb,.slice pc d.cons.length cc] 33)) (.cells #[.int .i64 c.kind,.int .i64 c.level,.string c.name,.slice pt' c.type.length ct',.slice pb' c.body.length cb',.slice pc' c.cons.length cc'] 33));have hsz:(re W τ d9).heap.size=W.heap.size:=rfl;have hsz2:((re W τ d9).alloc (.cells #[.int .i64 d.kind,.int .i64 d.level,.string d.name,.slice pt d.type.length ct,.slice pb d.body.length cb,.slice pc d.cons.length cc] 33)).heap.size=W.heap.size+1:=by simp[hsz]
 rw[hsz]at HB0 ⊢;rw[hsz2]at HC0;generalize ((re W τ d9).alloc (.cells #[.int .i64 d.kind,.int .i64 d.level,.string d.name,.slice pt d.type.length ct,.slice pb d.body.length cb,.slice pc d.cons.length cc] 33)).alloc (.cells #[.int .i64 c.kind,.int .i64 c.level,.string c.name,.slice pt' c.type.length ct',.slice pb' c.body.length cb',.slice pc' c.cons.length cc'] 33)=w1 at *;clear hsz hsz2;refine dH rC (dH rC ?_);refine rW rC 14 (by decide) fun τ d9=>?_
 simp only[List.take_succ_cons,List.take_zero];have HU1:=aA (HU0.out.re τ d9);have HB1:=aA (show BoxAt (re w1 τ d9) W.heap.size 33 #[.int .i64 d.kind,.int .i64 d.level,.string d.name,.slice pt d.type.length ct,.slice pb d.body.length cb,.slice pc d.cons.length cc] from HB0.out);have HC1:=aA (show BoxAt (re w1 τ d9) (W.heap.size+1) 33 #[.int .i64 c.kind,.int .i64 c.level,.string c.name,.slice pt' c.type.length ct',.slice pb' c.body.length cb',.slice pc' c.cons.length cc'] from HC0.out);have HWt:=aA (iZ (w0:=re w1 τ d9) d hsd (DcV.mono _ _ _ _ HU1.out HV.out));have n0:=HB1.out.cell 0;have n1:=HB1.out.cell 1;have n2:=HB1.out.cell 2;have n3:=HB1.out.cell 3;have n4:=HB1.out.cell 4;have n5:=HB1.out.cell 5;have nl:=HB1.out.lt;have HArg:=aA (And.intro hsd hsc);clear hsd hsc;go_wp2_with fail;refine HWt.out.mono ?_;rintro e w2 ⟨hU2,z,rfl,hz1,hz2,hz3⟩;have HU2:=aA (HU1.out.trans hU2);have HB2:=aA (HB1.out.under hU2);have HC2:=aA (HC1.out.under hU2);have HZ:=aA hz3;clear hU2 hz3 n0 n1 n2 n3 n4 n5 nl HWt HB1 HB0 HC1 HC0 HU1 HU0;by_cases hz:(2048:Int) < z
 · have HSh := aA (jR w2 (hE.under HU2.out) (hS.under HU2.out)); go_wp2; refine bF rC 14 3 0 (by decide) fun τ d => ?_
   simp only[List.drop_succ_cons,List.drop_zero,List.take_succ_cons,List.take_zero];walk_nrm;go_wp2;refine uG rC ?_;simp only[Exit.then];refine lK ?_ τ d;refine zP rC (t:=true) rfl ?_;simp only[if_true];refine dH rC (mK rC ?_);refine zI (i:=0) (rest:=List.range' 1 1) rC rfl (by rfl) (qG (vs:=#[]) rfl Tryz.func9 (by kernel_rfl) rfl (by simp)) HSh.out ?_;rintro v w3 ⟨rfl,hU3⟩;refine bF rC 1 1 0 (by decide) fun τ d=>?_
   simp only[List.drop_succ_cons,List.drop_zero,List.take_succ_cons,List.take_zero];walk_nrm;go_wp2;refine uG rC ?_;simp only[Exit.then];refine jE rC fun τ d=>?_
   go_wp2;exact uH rfl rfl ⟨rfl,(HU2.out.trans hU3).re _ _⟩
 have HWc:=aA (iZ (w0:=w2) c HArg.out.2 (DcV.mono _ _ _ _ HU2.out HV'.out));have n0:=HC2.out.cell 0;have n1:=HC2.out.cell 1;have n2:=HC2.out.cell 2;have n3:=HC2.out.cell 3;have n4:=HC2.out.cell 4;have n5:=HC2.out.cell 5;have nl:=HC2.out.lt;go_wp2_with fail;refine HWc.out.mono ?_;rintro e w3 ⟨hU3,y,rfl,hy1,hy2,hy3⟩;have HU2:=aA (HU2.out.trans hU3);have HB3:=aA (HB2.out.under hU3);have HC3:=aA (HC2.out.under hU3);have HY:=aA hy3;have HSh:=aA (jR w3 (hE.under HU2.out) (hS.under HU2.out));clear hU3 hy3 n0 n1 n2 n3 n4 n5 nl HWc HB2 HC2;by_cases hy:(2048:Int) < y
 · go_wp2; refine bF rC 14 3 0 (by decide) fun τ d => ?_
   simp only[List.drop_succ_cons,List.drop_zero,List.take_succ_cons,List.take_zero];walk_nrm;go_wp2;refine uG rC ?_;simp only[Exit.then];refine lK ?_ τ d;refine zP rC (t:=true) rfl ?_;simp only[if_true];refine dH rC (mK rC ?_);refine zI (i:=0) (rest:=List.range' 1 1) rC rfl (by rfl) (qG (vs:=#[]) rfl Tryz.func9 (by kernel_rfl) rfl (by simp)) HSh.out ?_;rintro v w3 ⟨rfl,hU3⟩;refine bF rC 1 1 0 (by decide) fun τ d=>?_
   simp only[List.drop_succ_cons,List.drop_zero,List.take_succ_cons,List.take_zero];walk_nrm;go_wp2;refine uG rC ?_;simp only[Exit.then];refine jE rC fun τ d=>?_
   go_wp2;exact uH rfl rfl ⟨rfl,(HU2.out.trans hU3).re _ _⟩
 · by_cases h2 : (100 : Int) < s.size
   · go_wp2; refine bF rC 14 3 0 (by decide) fun τ d => ?_
     simp only[List.drop_succ_cons,List.drop_zero,List.take_succ_cons,List.take_zero];walk_nrm;go_wp2;refine uG rC ?_;simp only[Exit.then];refine lK ?_ τ d;refine zP rC (t:=true) rfl ?_;simp only[if_true];refine dH rC (mK rC ?_);refine zI (i:=0) (rest:=List.range' 1 1) rC rfl (by rfl) (qG (vs:=#[]) rfl Tryz.func9 (by kernel_rfl) rfl (by simp)) HSh.out ?_;rintro v w3 ⟨rfl,hU3⟩;refine bF rC 1 1 0 (by decide) fun τ d=>?_
     simp only[List.drop_succ_cons,List.drop_zero,List.take_succ_cons,List.take_zero];walk_nrm;go_wp2;refine uG rC ?_;simp only[Exit.then];refine jE rC fun τ d=>?_
     go_wp2;exact uH rfl rfl ⟨rfl,(HU2.out.trans hU3).re _ _⟩
   go_wp2;have e0:decide ((2048:Int) < z)=false:=decide_eq_false (by omega);have e1:decide ((2048:Int) < y)=false:=decide_eq_false (by omega);have e2:decide ((100:Int) < s.size)=false:=decide_eq_false (by omega);simp only[e0,e1,e2,Bool.or_self];refine zI (i:=14) (rest:=List.range' 15 2) rC rfl (by rfl) (qG (vs:=#[]) rfl Tryz.func9 (by kernel_rfl) rfl (by simp)) HSh.out ?_;rintro v w4 ⟨rfl,hU4⟩;have HU4:=aA (HU2.out.trans hU4);have HB4:=aA (HB3.out.under hU4);have HC4:=aA (HC3.out.under hU4);clear hU4 HSh;refine bF rC 15 2 0 (by decide) fun τ d9=>?_
   simp only[List.drop_succ_cons,List.drop_zero,List.take_succ_cons,List.take_zero];walk_nrm;go_wp2;refine uG rC ?_;simp only[Exit.then];refine lK ?_ τ d9;refine zP rC (t:=false) rfl ?_;simp only[Bool.false_eq_true,if_false];refine jE rC fun τ d9=>?_
   go_wp2;refine lK ?_ τ d9;refine jE rC fun τ d9=>?_
   have HU5:=aA (HU4.out.re τ d9);have hw:=HZ.out (by omega);have hw':=HY.out (by omega);exact vV (F:=tCB x s W.heap.size (W.heap.size+1)) (by rfl) (fun J=>r9A (w:=re w4 τ d9) (d:=d) (c:=c) hx0 hx1 (tMA hw HArg.out.1) (tMA hw' HArg.out.2) (xEA hw) (xEA hw') (by omega) (DcV.mono _ _ _ _ HU5.out HV.out) (DcV.mono _ _ _ _ HU5.out HV'.out) HB4.out HC4.out (hS.under HU5.out) (hF.under HU5.out) HU5.out J)
end Go.Proofs.YtggjbblgoddnjaaGreatDoor
namespace Go.Proofs.YtggjbblgoddnjaaGreatDoor
open Go
theorem jIA:mapsRowed Tryz.pinned.checked.prog=true:=by kernel_rfl
theorem hIA:(Rows.declsSpoiltRow.inPlace==Tryz.pinned.checked.prog.inPlace 7)=true:=by kernel_rfl
theorem dJA:(Rows.declsSpoiltRow.unfollowed==Tryz.pinned.checked.prog.unfollowed 7)=true:=by kernel_rfl
theorem cJA:(Rows.declsSpoiltRow.recurses==Tryz.pinned.checked.prog.recurses 7)=true:=by kernel_rfl
theorem hJA:(Rows.declsSpoiltRow.named==Tryz.pinned.checked.prog.varsNamed 7)=true:=by kernel_rfl
theorem jBA:joinedFacts Tryz.pinned.checked.prog 7 Tryz.f7 Rows.declsSpoiltSpec Rows.declsSpoiltRow=true:=by
 unfold joinedFacts;rw[jIA,hIA,dJA,cJA,hJA]
 kernel_rfl
end Go.Proofs.YtggjbblgoddnjaaGreatDoor
namespace Go.Proofs.YtggjbblgoddnjaaGreatDoor
open Go.ChangeShapes Go.WideShapes Go.ChangeAt Go.WideMaps Go.WideElems Go.RowKit Go.Lx Go.Deep Go.Conc
theorem cAA(os:Os)(started:os.Started)(H:Type)(enc:TypeId×Value→H) :
 ReturnsInLeavingWide {} Tryz.checked os 7 .any (fun w args => (Rows.declsSpoiltSpec.pre enc Tryz.prog Tryz.f7 [] false w args ∧ laidMetH Tryz.prog nP w) ∧ sizedMet enc Tryz.prog Tryz.f7 (OpenSpec.ofChange Rows.declsSpoiltSpec) false w args)
   (Rows.declsSpoiltSpec.post enc Tryz.prog Tryz.f7 false true false false):=by
 refine mU (C := Tryz.checked) (X := fun w _ => laidMetH Tryz.prog nP w) (fun _ _ _ hh h => h.of_heap hh) Tryz.own started Tryz.func7
   (ChangeSpec.witness_shaped (enc:=enc) (C:=Tryz.checked) (os:=os) (X:=fun w _=>laidMetH Tryz.prog nP w) false (World.doorLaid Tryz.prog 400 os) #[.agg #[.int .i64 0,.int .i64 0,.string ⟨#[]⟩,.slice none 0 0,.slice none 0 0,.slice none 0 0],.agg #[.int .i64 0,.int .i64 0,.string ⟨#[]⟩,.slice none 0 0,.slice none 0 0,.slice none 0 0],.int .u16 0,.string ⟨#[]⟩] 8 rfl (World.shaped_of_RefB (by kernel_rfl) (by kernel_rfl)) (by kernel_rfl) (by kernel_rfl) (by kernel_rfl) (cLA os _)) ?_
 intro W base args ds gs before hval0 hW _ hsz hL _;have hval:∀(j:Nat) t v,Tryz.f7.params[j]? = some t→args[j]? = some v→Value.okWide Tryz.prog W .any base t v:=hval0;have hW':=hW;obtain⟨p,q,hA0,hV,rfl,_,_⟩:=hW;have hA:DataW.TrodAll enc Tryz.prog W 0 (fun _=>true) true Tryz.f7.params.toList args.toList ds p:=hA0;rw[Tryz.params7]at hA hval;have hlt:=hA.lt;obtain⟨v0,v1,v2,v3,d0,d1,d2,d3,p0,p1,p2,p3,rfl,rfl,rfl,h0,h1,h2,h3⟩:=trodAll_four hA;obtain⟨rfl,rfl⟩:=trodVars_none hV;have g0:=h0;obtain⟨a0,rfl,z0⟩:=okWide_struct Tryz.underlying33 (hval 0 33 v0 rfl rfl);rw[show Tryz.prog.cellsOf 33=6 by kernel_rfl]at z0;obtain⟨fuel0,hf0⟩:=g0;obtain⟨l0,hr0,hsd0⟩:=cUA (by simpa [Value.cells] using z0) hf0 (mCA hsz (j:=0) (t:=33) (d:=d0) rfl rfl);have ha0:DcV W (.agg a0) l0:=by have:=DcRow.val hr0;simpa [Value.cells] using this
 have g1:=h1;obtain⟨a1,rfl,z1⟩:=okWide_struct Tryz.underlying33 (hval 1 33 v1 rfl rfl);rw[show Tryz.prog.cellsOf 33=6 by kernel_rfl]at z1;obtain⟨fuel1,hf1⟩:=g1;obtain⟨l1,hr1,hsd1⟩:=cUA (by simpa [Value.cells] using z1) hf1 (mCA hsz (j:=1) (t:=33) (d:=d1) rfl rfl);have ha1:DcV W (.agg a1) l1:=by have:=DcRow.val hr1;simpa [Value.cells] using this
 have g2:=h2;obtain⟨z2,rfl⟩:=okWide_int Tryz.underlying78 (hval 2 78 v2 rfl rfl);obtain⟨fuel2,hf2⟩:=g2;obtain⟨y2,hy2,_,hwf2⟩:=DataW.trod_int Tryz.underlying78 hf2;simp only[Value.cells,List.cons.injEq,and_true,Value.int.injEq,true_and]at hy2;obtain rfl:=hy2;simp only[Lit.wf,Bool.and_eq_true,decide_eq_true_eq]at hwf2;obtain⟨l3,rfl⟩:=okWide_string Tryz.underlying9 (hval 3 9 v3 rfl rfl);have hB:=zPA hL;refine aW (P:=Tryz.prog) Tryz.func7 rfl rfl (by kernel_rfl) ((pSA l0 l1 z2 l3 W hwf2.1 hwf2.2 hsd0 hsd1 ha0 ha1 hB.1 hB.2.1 hB.2.2).mono ?_);rintro v w ⟨rfl,hU⟩ τ d;refine ChangeSpec.post_alike (W'':=re w W.tape d) ?_ ⟨rfl,rfl,rfl⟩;have hb:=qJA hU d;refine⟨_,_,_,[],p0++(p1++(p2++p3)),[],hW',?_,?_,rfl,hb.frame _,fun h=>by cases h⟩
 · exact trodAll_mk1 (jHA true)
 · exact trodAll_mk4 (zBA (by kernel_rfl) (by decide +kernel) hU d (fun x hx=>hlt x (by simp[hx])) h0) (zBA (by kernel_rfl) (by decide +kernel) hU d (fun x hx=>hlt x (by simp[hx])) h1) (zBA (by kernel_rfl) (by decide +kernel) hU d (fun x hx=>hlt x (by simp[hx])) h2) (zBA (by kernel_rfl) (by decide +kernel) hU d (fun x hx=>hlt x (by simp[hx])) h3)
theorem declsSpoilt_holds : Rows.DeclsSpoiltSaid :=
 OpenClaim.holds_of_wide_leaving 7 Tryz.f7 rfl rfl rfl rfl rfl rfl rfl ⟨rfl, rfl, rfl, rfl, rfl⟩ rfl rfl rfl rfl rfl (by kernel_rfl) Tryz.func7 jBA
   (of_decide_eq_true (by kernel_rfl)) (by unfold Func.isWrapper;first | (rw[if_pos (by decide +kernel)];kernel_rfl) | (rw[if_neg (by decide +kernel)];exact⟨rfl,rfl⟩))
   (fun os started H enc _=>cAA os started H enc)
end Go.Proofs.YtggjbblgoddnjaaGreatDoor
