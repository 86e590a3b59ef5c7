/- Part 17 of what the proof rests on. -/
import Derived.Test.YtggjbblgoddnjaaGreatDoorM00
import Derived.Test.YtggjbblgoddnjaaGreatDoorM08
import Derived.Test.YtggjbblgoddnjaaGreatDoorM16
set_option linter.unusedSimpArgs false
set_option linter.unusedVariables false
set_option maxRecDepth 100000
set_option maxHeartbeats 4000000
namespace Go.Proofs.YtggjbblgoddnjaaGreatDoor
open Go.Conc Go.Lx
noncomputable def fD:Code:=Tryz.f125.body.getD .skip
noncomputable def iD:Code:=aD (aD (jA (jA (jA (jA (aD fD))))))
noncomputable def lF:Code:=aD (jA iD)
noncomputable def xO:Code:=xA (jA lF)
noncomputable def tL:Code:=aD (aD (jA xO))
def inB(l:List UInt8)(c:UInt8):Bool:=decide (0≤Lib.indexByte l c)
def gVA : Nat → UInt8 → Bool
  | 0=>sK
  | 1=>inB [9,10,13,32]
  | 2=>inB [40]
  | 3=>inB [41]
  | _=>inB [59]
def goN : Nat → List UInt8 → Nat
  | 0=>many sK
  | 1=>many (inB [9,10,13,32])
  | 2=>fun _=>1
  | 3=>fun _=>1
  | _=>many fun c=>(c.toNat:Int) != 10
def iAA : Nat → Int
  | 0=>1
  | 1=>0
  | 2=>2
  | 3=>3
  | _=>0
def dF(s:ByteArray)(c q b0 k xb:Nat)(i:Int)(J:Nat→Value):Array Value :=
 #[.string s, .chan (some c), .chan (some q), J 3, J 4, J 5, .slice (some ⟨b0, 0, none⟩) 5 5, .int .i64 (k : Int), .pointer (some ⟨xb, 0, none⟩), J 9, J 10, J 11, J 12, J 13, J 14, J 15, J 16, J 17, J 18, J 19, J 20, .slice (some ⟨b0, 0, none⟩) 5 5, .int .i64 5, .int .i64 i, J 24, J 25, J 26, J 27, J 28, J 29, J 30, J 31, J 32, J 33, J 34, J 35, J 36, J 37, J 38, J 39, J 40, J 41, J 42, J 43, J 44, J 45, J 46, J 47, J 48, J 49, J 50, J 51, J 52, J 53, J 54, J 55, J 56, J 57, J 58, J 59, J 60, J 61, J 62, J 63, J 64, J 65, J 66, J 67, J 68, J 69, J 70, J 71, J 72, J 73, J 74, J 75]
def dAA(d:Deal)(T:TypeId→Prop)(o:Option Nat)(L:List (Nat×Obj))(g:FuncId)(caps:Array Value)(n:List UInt8→Nat):Prop :=
 ∀(s:ByteArray) (w:World),s.size≤1000000→Holds d T o L w→CallsC Tryz.prog false (Rely d T o) (Lx.Does d T o) g (#[.string s]++caps) ((s.size+1) * 6001+100) w fun v w'=>v = .int .i64 (n s.data.toList:Nat)∧Holds d T o L w'
section
variable {d : Deal} {T : TypeId → Prop} {b0 xb : Nat} {df : List Deferred}
theorem yZA {R : Array Value} {L : List (Nat × Obj)} {f g : FuncId} {caps gcaps : Array Value} {kd : Int} {p : UInt8 → Bool} (s : ByteArray) (c q k i : Nat) (J : Nat → Value) (hk : k < s.size) (hi : i < 5) (hT95 : T 235)
    (hb0:(b0,Obj.cells R 235 (0,0))∈L) (hr0:R[i * 3]? = some (.func (.func f) #[] caps)) (hr1:R[i * 3+1]? = some (.func (.func g) #[] gcaps)) (hr2:R[i * 3+2]? = some (.int .i64 kd))
    (hW:∀ b x,pKA false d T (some xb) ((b,x)::L) f caps p) (hn:p (s[k]'hk)=false) (w:World) (hF:Holds d T (some xb) L w) :
    Code.wpC Tryz.prog false (Rely d T (some xb)) (Lx.Does d T (some xb)) 125 tL 20000
      (Exit.then (fun a' w'=>∃ J',a'=⟨dF s c q b0 k xb (i+1:Nat) J',df⟩∧Holds d T (some xb) L w') (fun _ _ _=>False)) ⟨dF s c q b0 k xb i J,df⟩ w:=by
  have hin:0≤(k:Int)∧(k:Int) < s.size:=by omega
  have hi5:decide ((i:Int) < 5)=true:=by simp;omega
  unfold tL xO lF iD fD;simp only[Tryz.f125,Option.getD_some,xA,jA,aD,dF];have hilt:(i:Int) < 5:=by omega
  co_apply wpC_more
  · co_stmt terms Holds.rely hF (co_quiet terms)
    co_apply wpC_seq terms;co_apply wpC_cond (t:=true) terms rfl;simp only[if_true];co_ctl terms;co_then;co_apply wpC_seq terms;co_apply wpC_block terms;co_apply wpC_seq terms
    co_reg terms
    co_op Holds.rely hF (co_still terms)
    co_opw Holds.rely hF (have hc0:_=some _:=(hF.cell hb0 (i * 3)).trans hr0;have hc1:_=some _:=(hF.cell hb0 (i * 3+1)).trans hr1;have hc2:_=some _:=(hF.cell hb0 (i * 3+2)).trans hr2) (refine Does.reads ?_;intro e he;have hm:=mem_listed he;simp[go_sem, *]at hm;rcases hm with rfl | rfl | rfl<;>exact hF.read hb0 _ _)
    clear hc0 hc1 hc2
    co_opw Holds.rely hF (skip) (refine⟨Turn.alloc hT95 hF.box,?_⟩;co_evs (skip))
    have hne:∀ p∈L,p.1≠_:=fun p hp=>Nat.ne_of_lt (hF.lt hp)
    have hBn:=hF.big;replace hF:=hF.cons #[.nilFunc,.nilFunc,.int .i64 0] hT95
    revert hne hF hBn
    generalize Array.size (World.heap _)=nb;intro hne hBn hF
    co_opw Holds.rely hF (have hm:(nb,Obj.cells #[.nilFunc,.nilFunc,.int .i64 0] 235 (0,0))∈(nb,Obj.cells #[.nilFunc,.nilFunc,.int .i64 0] 235 (0,0))::L:=List.mem_cons_self;have hc0:_=some _:=hF.cell hm 0;have hc1:_=some _:=hF.cell hm 1;have hc2:_=some _:=hF.cell hm 2;have hf0:=hF.frozen hm 0;have hf1:=hF.frozen hm 1;have hf2:=hF.frozen hm 2;have sf:=sV Tryz.prog) (have ho:=hF.mine hm hBn hT95;have ef:=jZ Tryz.prog;have ht:=Turn.set3 ho (hF.lt hm) hF.big (.func (.func f) #[] caps) (.func (.func g) #[] gcaps) (.int .i64 kd);refine⟨ht,?_⟩;have ho2:=ht.own_fwd (hF.lt hm) ho;clear ht ho;intro e he;have hm:=mem_listed he;simp[go_sem, *]at hm;rcases hm with rfl | rfl | rfl<;>exact wO ho2 _ _ _)
    replace hF:=hF.set3 hne (.func (.func f) #[] caps) (.func (.func g) #[] gcaps) (.int .i64 kd);clear hm hc0 hc1 hc2 hf0 hf1 hf2 sf;co_apply opsC_nil terms;co_then;co_apply wpC_seq terms;have hm:(nb,Obj.cells #[.func (.func f) #[] caps,.func (.func g) #[] gcaps,.int .i64 kd] 235 (0,0))∈(nb,Obj.cells #[.func (.func f) #[] caps,.func (.func g) #[] gcaps,.int .i64 kd] 235 (0,0))::L:=List.mem_cons_self;co_apply zG terms draws 500 (by omega) (S:=Holds d T (some xb) ((nb,Obj.cells #[.func (.func f) #[] caps,.func (.func g) #[] gcaps,.int .i64 kd] 235 (0,0))::L)) (by first | kernel_rfl | rfl);intro _ hR;replace hF:=Holds.rely (Holds.rely hF hR) (nM _);clear hR;simp only[List.size_toArray,List.length_cons,List.length_nil,Nat.reduceAdd,Nat.zero_add];co_applyP wB terms (fun _ _=>Holds.rely) (fun _ _ _=>wpC_rely terms) 0 rfl (by first | kernel_rfl | decide +kernel) (by rfl) hF (fun _ hw=>⟨?_,?_⟩) ?_;rotate_left
    · intro K hK;go_simp;exact hK
    · co_quiet terms
    try walk_nrm
    co_applyP wB terms (fun _ _=>Holds.rely) (fun _ _ _=>wpC_rely terms) 1 rfl (by first | kernel_rfl | decide +kernel) (by rfl) hF (fun _ hw=>⟨?_,?_⟩) ?_;rotate_left
    · intro K hK;have hc:_=some (Value.func (.func f) #[] caps):=hw.cell hm 0;go_simp;exact hK
    · have hc:_=some (Value.func (.func f) #[] caps):=hw.cell hm 0;refine Does.reads ?_;co_evs (exact hw.read hm _ _)
    try walk_nrm
    co_applyP wB terms (fun _ _=>Holds.rely) (fun _ _ _=>wpC_rely terms) 2 rfl (by first | kernel_rfl | decide +kernel) (by rfl) hF (fun _ hw=>⟨?_,?_⟩) ?_;rotate_left
    · intro K hK;go_simp;exact hK
    · co_quiet terms
    try walk_nrm
    co_applyP wB terms (fun _ _=>Holds.rely) (fun _ _ _=>wpC_rely terms) 3 rfl (by first | kernel_rfl | decide +kernel) (by rfl) hF (fun _ hw=>⟨?_,?_⟩) ?_;rotate_left
    · intro K hK;go_simp;exact hK
    · co_quiet terms
    try walk_nrm
    co_applyP wB terms (fun _ _=>Holds.rely) (fun _ _ _=>wpC_rely terms) 4 rfl (by first | kernel_rfl | decide +kernel) (by rfl) hF (fun _ hw=>⟨?_,?_⟩) ?_;rotate_left
    · intro K hK;go_simp;exact hK
    · rw[listed_nil (by simp[go_sem,uI _ _ _ _ Tryz.underlying9 hin])];exact Terms.idle terms _
    try walk_nrm
    co_applyP oM terms (i:=5) (by first | kernel_rfl | decide +kernel) rfl (by rfl) rfl (by rfl) (hW _ _ (s[k]'hk) _ hF) (by omega) (by simp[Act.eval]);clear hF;rintro v w ⟨rfl,hF⟩;rw[hn];refine⟨hF,?_⟩
    try walk_nrm
    refine xJ (by first | kernel_rfl | decide +kernel) ?_ _;co_then;co_apply wpC_cond (t:=false) terms rfl;simp only[Bool.false_eq_true,if_false];co_ctl terms;co_then
    repeat (first | co_reg terms | co_op Holds.rely hF (co_quiet terms) | (co_apply opsC_unwanted terms rfl (by rfl);try walk_nrm) | (co_ctl terms;try co_then))
    have hwr:IntKind.i64.wrap ((i:Int)+1)=((i+1:Nat):Int):=by rw[IntWalk.i64_in _ (by omega)];omega
    rw[hwr];exact bB (by rfl) (hF.weak fun p hp=>List.mem_cons_of_mem _ hp)
  · decide
theorem iMA {P : Program} {main : Bool} {R : World → World → Prop} {D : World → World → Array Event → Prop} {fn : FuncId} {md : Region.Mode} {ops : Array Oper} {Q : Exit → Act → World → Prop} {S : World → Prop} {c i fuel : Nat} {listed' : Array Bool} {a : Act} {w : World} {o : Oper} (hr : Region.ready md ops listed' = [i])
    (ho:ops[i]? = some o) (hw:Region.wanted o (yielded ops a.tmps)=true)
    (h:∀ w₁,R w w₁→∀ K:Act→World→Prop,(∀ a' w',D w₁ w' (listed P fn a o w₁)∧S w'∧AnyX P main R D fn md ops c Q S fuel (listed'.setIfInBounds i true) a' w'→K a' w')→uponK o a K ((execOp a.eval o).run P w₁)):AnyX P main R D fn md ops c Q S (fuel+1) listed' a w :=
  iVA hr ho hw fun w₁ h₁=>h w₁ h₁ _ fun _ _ x=>x
def HoldsB(d:Deal)(T:TypeId→Prop)(xb:Nat)(L:List (Nat×Obj))(w:World):Prop:=∃ y:Array Value,y.size=4∧Holds d T (some xb) ((xb,Obj.cells y 199 (0,0))::L) w
theorem HoldsB.rely{L:List (Nat×Obj)}{w w₁:World}(h:HoldsB d T xb L w)(r:Rely d T (some xb) w w₁):HoldsB d T xb L w₁:=by
 obtain⟨y,hy,h⟩:=h;exact⟨y,hy,h.rely r⟩
theorem HoldsB.low{L:List (Nat×Obj)}{w:World}(h:HoldsB d T xb L w):Holds d T (some xb) L w:=by
 obtain⟨y,hy,h⟩:=h;exact h.weak fun p hp=>List.mem_cons_of_mem _ hp
theorem four{y:Array Value}(h:y.size=4):∃ a b c e,y=#[a,b,c,e]:=by
 obtain⟨l⟩:=y
 match l,h with
 | [a,b,c,e],_=>exact⟨a,b,c,e,rfl⟩
theorem pYA(s:ByteArray)(k:Nat):(s.extract k s.size).data.toList=s.data.toList.drop k:=by
 rw[ByteArray.data_extract,Array.toList_extract,List.extract_eq_take_drop,List.take_of_length_le];simp
theorem fYA {R x : Array Value} {L : List (Nat × Obj)} {f g : FuncId} {caps gcaps : Array Value} {kd : Int} {p : UInt8 → Bool} {n : List UInt8 → Nat} (s : ByteArray) (c q k i : Nat) (J : Nat → Value) (hk : k < s.size) (hs : s.size ≤ 1000000) (hi : i < 5) (hT95 : T 235)
    (hxs:x.size=4) (hb0:(b0,Obj.cells R 235 (0,0))∈L) (hxL:∀ p∈L,p.1≠xb) (hr0:R[i * 3]? = some (.func (.func f) #[] caps)) (hr1:R[i * 3+1]? = some (.func (.func g) #[] gcaps)) (hr2:R[i * 3+2]? = some (.int .i64 kd))
    (hW:∀ b y,pKA false d T (some xb) ((b,y)::(xb,Obj.cells x 199 (0,0))::L) f caps p) (hG:∀ b y,dAA d T (some xb) ((b,y)::(xb,Obj.cells x 199 (0,0))::L) g gcaps n)
    (hn:p (s[k]'hk)=true) {m:Nat} (hme:RowKit.Hid (n (s.data.toList.drop k)=m)) (hmn:k+m≤s.size) (w:World) (hF:Holds d T (some xb) ((xb,Obj.cells x 199 (0,0))::L) w) :
    Code.wpC Tryz.prog false (Rely d T (some xb)) (Lx.Does d T (some xb)) 125 tL 1000000000000
      (Exit.then (fun _ _ => False) (fun e a' w' => e = .exit 2 ∧ ∃ J', a' = ⟨dF s c q b0 k xb i J', df⟩ ∧
        Holds d T (some xb) ((xb,Obj.cells #[.int .i64 kd,.int .i64 (k:Int),.string (s.extract k (k+m)),.int .i64 0] 199 (0,0))::L) w')) ⟨dF s c q b0 k xb i J,df⟩ w:=by
  have hb0':(b0,Obj.cells R 235 (0,0))∈(xb,Obj.cells x 199 (0,0))::L:=List.mem_cons_of_mem _ hb0;have hin:0≤(k:Int)∧(k:Int) < s.size:=by omega
  have hi5:decide ((i:Int) < 5)=true:=by simp;omega
  unfold tL xO lF iD fD;simp only[Tryz.f125,Option.getD_some,xA,jA,aD,dF];have hilt:(i:Int) < 5:=by omega
  co_apply wpC_more
  · co_stmt terms Holds.rely hF (co_quiet terms)
    co_apply wpC_seq terms;co_apply wpC_cond (t:=true) terms rfl;simp only[if_true];co_ctl terms;co_then;co_apply wpC_seq (n₂:=50) terms;co_apply wpC_block terms;co_apply wpC_seq terms
    co_reg terms
    co_op Holds.rely hF (co_still terms)
    co_opw Holds.rely hF (have hc0:_=some _:=(hF.cell hb0' (i * 3)).trans hr0;have hc1:_=some _:=(hF.cell hb0' (i * 3+1)).trans hr1;have hc2:_=some _:=(hF.cell hb0' (i * 3+2)).trans hr2) (refine Does.reads ?_;intro e he;have hm:=mem_listed he;simp[go_sem, *]at hm;rcases hm with rfl | rfl | rfl<;>exact hF.read hb0' _ _)
    clear hc0 hc1 hc2
    co_opw Holds.rely hF (skip) (refine⟨Turn.alloc hT95 hF.box,?_⟩;co_evs (skip))
    have hne:∀ p∈(xb,Obj.cells x 199 (0,0))::L,p.1≠_:=fun p hp=>Nat.ne_of_lt (hF.lt hp)
    have hBn:=hF.big;replace hF:=hF.cons #[.nilFunc,.nilFunc,.int .i64 0] hT95
    revert hne hF hBn
    generalize Array.size (World.heap _)=nb;intro hne hBn hF
    co_opw Holds.rely hF (have hm:(nb,Obj.cells #[.nilFunc,.nilFunc,.int .i64 0] 235 (0,0))∈(nb,Obj.cells #[.nilFunc,.nilFunc,.int .i64 0] 235 (0,0))::(xb,Obj.cells x 199 (0,0))::L:=List.mem_cons_self;have hc0:_=some _:=hF.cell hm 0;have hc1:_=some _:=hF.cell hm 1;have hc2:_=some _:=hF.cell hm 2;have hf0:=hF.frozen hm 0;have hf1:=hF.frozen hm 1;have hf2:=hF.frozen hm 2;have sf:=sV Tryz.prog) (have ho:=hF.mine hm hBn hT95;have ef:=jZ Tryz.prog;have ht:=Turn.set3 ho (hF.lt hm) hF.big (.func (.func f) #[] caps) (.func (.func g) #[] gcaps) (.int .i64 kd);refine⟨ht,?_⟩;have ho2:=ht.own_fwd (hF.lt hm) ho;clear ht ho;intro e he;have hm:=mem_listed he;simp[go_sem, *]at hm;rcases hm with rfl | rfl | rfl<;>exact wO ho2 _ _ _)
    replace hF:=hF.set3 hne (.func (.func f) #[] caps) (.func (.func g) #[] gcaps) (.int .i64 kd);clear hm hc0 hc1 hc2 hf0 hf1 hf2 sf;co_apply opsC_nil terms;co_then;co_apply wpC_seq terms;have hm:(nb,Obj.cells #[.func (.func f) #[] caps,.func (.func g) #[] gcaps,.int .i64 kd] 235 (0,0))∈(nb,Obj.cells #[.func (.func f) #[] caps,.func (.func g) #[] gcaps,.int .i64 kd] 235 (0,0))::(xb,Obj.cells x 199 (0,0))::L:=List.mem_cons_self;co_apply zG terms draws 500 (by omega) (S:=Holds d T (some xb) ((nb,Obj.cells #[.func (.func f) #[] caps,.func (.func g) #[] gcaps,.int .i64 kd] 235 (0,0))::(xb,Obj.cells x 199 (0,0))::L)) (by first | kernel_rfl | rfl);intro _ hR;replace hF:=Holds.rely (Holds.rely hF hR) (nM _);clear hR;simp only[List.size_toArray,List.length_cons,List.length_nil,Nat.reduceAdd,Nat.zero_add];co_applyP wB terms (fun _ _=>Holds.rely) (fun _ _ _=>wpC_rely terms) 0 rfl (by first | kernel_rfl | decide +kernel) (by rfl) hF (fun _ hw=>⟨?_,?_⟩) ?_;rotate_left
    · intro K hK;go_simp;exact hK
    · co_quiet terms
    try walk_nrm
    co_applyP wB terms (fun _ _=>Holds.rely) (fun _ _ _=>wpC_rely terms) 1 rfl (by first | kernel_rfl | decide +kernel) (by rfl) hF (fun _ hw=>⟨?_,?_⟩) ?_;rotate_left
    · intro K hK;have hc:_=some (Value.func (.func f) #[] caps):=hw.cell hm 0;go_simp;exact hK
    · have hc:_=some (Value.func (.func f) #[] caps):=hw.cell hm 0;refine Does.reads ?_;co_evs (exact hw.read hm _ _)
    try walk_nrm
    co_applyP wB terms (fun _ _=>Holds.rely) (fun _ _ _=>wpC_rely terms) 2 rfl (by first | kernel_rfl | decide +kernel) (by rfl) hF (fun _ hw=>⟨?_,?_⟩) ?_;rotate_left
    · intro K hK;go_simp;exact hK
    · co_quiet terms
    try walk_nrm
    co_applyP wB terms (fun _ _=>Holds.rely) (fun _ _ _=>wpC_rely terms) 3 rfl (by first | kernel_rfl | decide +kernel) (by rfl) hF (fun _ hw=>⟨?_,?_⟩) ?_;rotate_left
    · intro K hK;go_simp;exact hK
    · co_quiet terms
    try walk_nrm
    co_applyP wB terms (fun _ _=>Holds.rely) (fun _ _ _=>wpC_rely terms) 4 rfl (by first | kernel_rfl | decide +kernel) (by rfl) hF (fun _ hw=>⟨?_,?_⟩) ?_;rotate_left
    · intro K hK;go_simp;exact hK
    · rw[listed_nil (by simp[go_sem,uI _ _ _ _ Tryz.underlying9 hin])];exact Terms.idle terms _
    try walk_nrm
    co_applyP oM terms (i:=5) (by first | kernel_rfl | decide +kernel) rfl (by rfl) rfl (by rfl) (hW _ _ (s[k]'hk) _ hF) (by omega) (by simp[Act.eval]);clear hF;rintro v w ⟨rfl,hF⟩;rw[hn];refine⟨hF,?_⟩
    try walk_nrm
    refine xJ (by first | kernel_rfl | decide +kernel) ?_ _;co_then;co_apply wpC_cond (t:=true) terms rfl;simp only[if_true];have hkl:k≤s.size:=Nat.le_of_lt hk;have hsz:(s.extract k s.size).size≤1000000:=by simp only[ByteArray.size_extract];omega
    co_apply wpC_seq terms;co_apply zG terms draws 7000000000 (by omega) (S:=Holds d T (some xb) ((nb,Obj.cells #[.func (.func f) #[] caps,.func (.func g) #[] gcaps,.int .i64 kd] 235 (0,0))::(xb,Obj.cells x 199 (0,0))::L)) (by first | kernel_rfl | rfl);intro _ hR;replace hF:=Holds.rely (Holds.rely hF hR) (nM _);clear hR;simp only[List.size_toArray,List.length_cons,List.length_nil,Nat.reduceAdd,Nat.zero_add];co_applyP wB terms (fun _ _=>Holds.rely) (fun _ _ _=>wpC_rely terms) 0 rfl (by first | kernel_rfl | decide +kernel) (by rfl) hF (fun _ hw=>⟨?_,?_⟩) ?_;rotate_left
    · intro K hK;go_simp;exact hK
    · co_quiet terms
    try walk_nrm
    co_applyP wB terms (fun _ _=>Holds.rely) (fun _ _ _=>wpC_rely terms) 1 rfl (by first | kernel_rfl | decide +kernel) (by rfl) hF (fun _ hw=>⟨?_,?_⟩) ?_;rotate_left
    · intro K hK;have hc:_=some (Value.func (.func g) #[] gcaps):=hw.cell hm 1;go_simp;exact hK
    · have hc:_=some (Value.func (.func g) #[] gcaps):=hw.cell hm 1;refine Does.reads ?_;co_evs (exact hw.read hm _ _)
    try walk_nrm
    co_applyP wB terms (fun _ _=>Holds.rely) (fun _ _ _=>wpC_rely terms) 2 rfl (by first | kernel_rfl | decide +kernel) (by rfl) hF (fun _ hw=>⟨?_,?_⟩) ?_;rotate_left
    · intro K hK;go_simp;exact hK
    · co_quiet terms
    try walk_nrm
    co_applyP wB terms (fun _ _=>Holds.rely) (fun _ _ _=>wpC_rely terms) 3 rfl (by first | kernel_rfl | decide +kernel) (by rfl) hF (fun _ hw=>⟨?_,?_⟩) ?_;rotate_left
    · intro K hK;go_simp;exact hK
    · co_quiet terms
    try walk_nrm
    co_applyP wB terms (fun _ _=>Holds.rely) (fun _ _ _=>wpC_rely terms) 4 rfl (by first | kernel_rfl | decide +kernel) (by rfl) hF (fun _ hw=>⟨?_,?_⟩) ?_;rotate_left
    · intro K hK;go_simp;exact hK
    · rw[listed_nil (by simp[go_sem,mLA _ _ _ _ Tryz.underlying9 (Nat.le_of_lt hk)])];exact Terms.idle terms _
    try walk_nrm
    co_applyP oM terms (i:=5) (by first | kernel_rfl | decide +kernel) rfl (by rfl) rfl (by rfl) (hG _ _ (s.extract k s.size) _ hsz hF) (by omega) (by simp[Act.eval]);clear hF;rintro v w ⟨rfl,hF⟩;refine⟨hF,?_⟩
    try walk_nrm
    rw[pYA,hme.out];co_applyP wB terms (fun _ _=>Holds.rely) (fun _ _ _=>wpC_rely terms) 6 rfl (by first | kernel_rfl | decide +kernel) (by rfl) hF (fun _ hw=>⟨?_,?_⟩) ?_;rotate_left
    · intro K hK;go_simp;exact hK
    · co_quiet terms
    try walk_nrm
    refine xJ (by first | kernel_rfl | decide +kernel) ?_ _;co_then;have hwr:IntKind.i64.wrap ((k:Int)+(m:Int))=((k+m:Nat):Int):=by rw[IntWalk.i64_in _ (by omega)];omega
    have hkm:(k:Int)≤(k:Int)+(m:Int):=by omega
    have hkn:(k:Int)+(m:Int)≤s.size:=by omega
    have htn:((k:Int)+(m:Int)).toNat=k+m:=by omega
    replace hF:HoldsB d T xb ((nb,Obj.cells #[.func (.func f) #[] caps,.func (.func g) #[] gcaps,.int .i64 kd] 235 (0,0))::L) _:=⟨x,hxs,hF.weak fun p hp=>by simp only[List.mem_cons]at hp ⊢;rcases hp with h | h | h<;>simp[h]⟩;have hm':(nb,Obj.cells #[.func (.func f) #[] caps,.func (.func g) #[] gcaps,.int .i64 kd] 235 (0,0))∈(nb,Obj.cells #[.func (.func f) #[] caps,.func (.func g) #[] gcaps,.int .i64 kd] 235 (0,0))::L:=List.mem_cons_self;co_apply wpC_seq terms;co_apply zG terms draws 500 (by omega) (S:=HoldsB d T xb ((nb,Obj.cells #[.func (.func f) #[] caps,.func (.func g) #[] gcaps,.int .i64 kd] 235 (0,0))::L)) (by first | kernel_rfl | rfl);intro _ hR;replace hF:=HoldsB.rely (HoldsB.rely hF hR) (nM _);clear hR;simp only[List.size_toArray,List.length_cons,List.length_nil,Nat.reduceAdd,Nat.zero_add];co_applyP wB terms (fun _ _=>HoldsB.rely) (fun _ _ _=>wpC_rely terms) 0 rfl (by first | kernel_rfl | decide +kernel) (by rfl) hF (fun _ hw=>⟨?_,?_⟩) ?_;rotate_left
    · intro K hK;go_simp;exact hK
    · co_quiet terms
    try walk_nrm
    co_applyP wB terms (fun _ _=>HoldsB.rely) (fun _ _ _=>wpC_rely terms) 1 rfl (by first | kernel_rfl | decide +kernel) (by rfl) hF (fun _ hw=>⟨?_,?_⟩) ?_;rotate_left
    · intro K hK;have hc:_=some (Value.int .i64 kd):=hw.low.cell hm' 2;go_simp;exact hK
    · have hc:_=some (Value.int .i64 kd):=hw.low.cell hm' 2;refine Does.reads ?_;co_evs (exact hw.low.read hm' _ _)
    try walk_nrm
    co_applyP wB terms (fun _ _=>HoldsB.rely) (fun _ _ _=>wpC_rely terms) 2 rfl (by first | kernel_rfl | decide +kernel) (by rfl) hF (fun _ hw=>⟨?_,?_⟩) ?_;rotate_left
    · intro K hK;go_simp;exact hK
    · co_quiet terms
    try walk_nrm
    co_applyP wB terms (fun _ _=>HoldsB.rely) (fun _ _ _=>wpC_rely terms) 3 rfl (by first | kernel_rfl | decide +kernel) (by rfl) hF (fun _ hw=>⟨?_,?_⟩) ?_;rotate_left
    · intro K hK;go_simp;exact hK
    · co_quiet terms
    try walk_nrm
    co_applyP wB terms (fun _ _=>HoldsB.rely) (fun _ _ _=>wpC_rely terms) 4 rfl (by first | kernel_rfl | decide +kernel) (by rfl) hF (fun _ hw=>⟨?_,?_⟩) ?_;rotate_left
    · intro K hK;go_simp;exact hK
    · co_quiet terms
    try walk_nrm
    co_applyP wB terms (fun _ _=>HoldsB.rely) (fun _ _ _=>wpC_rely terms) 5 rfl (by first | kernel_rfl | decide +kernel) (by rfl) hF (fun _ hw=>⟨?_,?_⟩) ?_;rotate_left
    · intro K hK;go_simp;exact hK
    · co_quiet terms
    try walk_nrm
    co_applyP wB terms (fun _ _=>HoldsB.rely) (fun _ _ _=>wpC_rely terms) 6 rfl (by first | kernel_rfl | decide +kernel) (by rfl) hF (fun _ hw=>⟨?_,?_⟩) ?_;rotate_left
    · intro K hK;go_simp;exact hK
    · co_quiet terms
    try walk_nrm
    co_applyP wB terms (fun _ _=>HoldsB.rely) (fun _ _ _=>wpC_rely terms) 7 rfl (by first | kernel_rfl | decide +kernel) (by rfl) hF (fun _ hw=>⟨?_,?_⟩) ?_;rotate_left
    · intro K hK;go_simp;exact hK
    · co_quiet terms
    try walk_nrm
    co_applyP wB terms (fun _ _=>HoldsB.rely) (fun _ _ _=>wpC_rely terms) 8 rfl (by first | kernel_rfl | decide +kernel) (by rfl) hF (fun _ hw=>⟨?_,?_⟩) ?_;rotate_left
    · intro K hK;go_simp;exact hK
    · rw[listed_nil (by simp[go_sem,dJA _ _ _ _ _ _ Tryz.underlying9 hin.1 hkm hkn])];exact Terms.idle terms _
    try walk_nrm
    co_applyP wB terms (fun _ _=>HoldsB.rely) (fun _ _ _=>wpC_rely terms) 9 rfl (by first | kernel_rfl | decide +kernel) (by rfl) hF (fun _ hw=>⟨?_,?_⟩) ?_;rotate_left
    · intro K hK;go_simp;exact hK
    · co_quiet terms
    try walk_nrm
    co_applyP wB terms (fun _ _=>HoldsB.rely) (fun _ _ _=>wpC_rely terms) 10 rfl (by first | kernel_rfl | decide +kernel) (by rfl) hF (fun _ hw=>⟨?_,?_⟩) ?_;rotate_left
    · intro K hK;go_simp;exact hK
    · co_quiet terms
    try walk_nrm
    co_applyP iMA (i:=11) (by first | kernel_rfl | decide +kernel) rfl (by rfl);intro w1 hR K hK;obtain⟨y,hy,hX⟩:=HoldsB.rely hF hR;clear hF hR;obtain⟨y0,y1,y2,y3,rfl⟩:=four hy;have hmx:(xb,Obj.cells #[y0,y1,y2,y3] 199 (0,0))∈(xb,Obj.cells #[y0,y1,y2,y3] 199 (0,0))::(nb,Obj.cells #[.func (.func f) #[] caps,.func (.func g) #[] gcaps,.int .i64 kd] 235 (0,0))::L:=List.mem_cons_self;have hc0:_=some _:=hX.cell hmx 0;have hc1:_=some _:=hX.cell hmx 1;have hc2:_=some _:=hX.cell hmx 2;have hc3:_=some _:=hX.cell hmx 3;have hf0:=hX.frozen hmx 0;have hf1:=hX.frozen hmx 1;have hf2:=hX.frozen hmx 2;have hf3:=hX.frozen hmx 3;go_simp
    try (unfold stored;go_simp)
    have ho:Lx.Own d T (some xb) w1 xb:=.inr rfl;have hnx:∀ p∈(nb,Obj.cells #[.func (.func f) #[] caps,.func (.func g) #[] gcaps,.int .i64 kd] 235 (0,0))::L,p.1≠xb:=by
     intro p hp;rcases List.mem_cons.1 hp with rfl | hp
     · exact Ne.symm (hne (xb,Obj.cells x 199 (0,0)) List.mem_cons_self)
     · exact hxL p hp
    have hX':=hX.set4 hnx (.int .i64 kd) (.int .i64 (k:Int)) (.string (s.extract k (k+m))) (.int .i64 0);have ht:=Turn.set4 ho (hX.lt hmx) hX.big (.int .i64 kd) (.int .i64 (k:Int)) (.string (s.extract k (k+m))) (.int .i64 0);have ho2:=ht.own_fwd (hX.lt hmx) ho;refine hK _ _ ⟨⟨ht,?_⟩,⟨_,rfl,hX'⟩,?_⟩
    · clear ht hX' ho hK;have es:=yP Tryz.prog;intro e he;have hm:=mem_listed he;simp[go_sem, *]at hm;rcases hm with rfl | rfl | rfl | rfl<;>exact wO ho2 _ _ _
    clear hK K
    try walk_nrm
    refine xJ (by first | kernel_rfl | decide +kernel) ?_ _;co_then;co_ctl terms;co_then;exact⟨trivial,bB (by rfl) (hX'.weak fun p hp=>by simp only[List.mem_cons]at hp ⊢;rcases hp with h | h<;>simp[h])⟩
  · decide
end
section
variable {d : Deal} {T : TypeId → Prop} {o : Option Nat} {b0 b1 b2 b3 b4 b5 b6 b7 xb : Nat} {df : List Deferred}
theorem dW(L:List (Nat×Obj))(b:Nat)(l:List UInt8)(hb:(b,Obj.cells #[.string ⟨l.toArray⟩] 9 (0,0))∈L):pKA false d T o L 183 #[.pointer (some ⟨b,0,none⟩)] (inB l) :=
 fun c w hF=>q4A (s:=⟨l.toArray⟩) hb c w hF
theorem rY(L:List (Nat×Obj))(b:Nat){f:FuncId}{caps:Array Value}{p:UInt8→Bool}(hW:pKA false d T o L f caps p)(hb:(b,Obj.cells #[.func (.func f) #[] caps] 175 (0,0))∈L) :
 dAA d T o L 185 #[.pointer (some ⟨b,0,none⟩)] (many p) :=
 fun s w hs hF=>cXA hW hb s hs w hF
theorem cQA(L:List (Nat×Obj)):dAA d T o L 170 #[] (fun _=>1) :=
 fun s w _ hF=>Go.Lx.CallsC.more (f5A (.string s) w hF) (by omega)
structure Rule (d:Deal) (T:TypeId→Prop) (o:Option Nat) (b0 b1 b2 b3 b4 b5 b6 b7 i:Nat) (f g:FuncId) (caps gcaps:Array Value):Prop where
 r0:(vL b1 b2 b3 b4 b5 b6 b7)[i * 3]? = some (.func (.func f) #[] caps)
 r1:(vL b1 b2 b3 b4 b5 b6 b7)[i * 3+1]? = some (.func (.func g) #[] gcaps)
 r2:(vL b1 b2 b3 b4 b5 b6 b7)[i * 3+2]? = some (.int .i64 (iAA i))
 wish:∀ L,(∀ p∈zD b0 b1 b2 b3 b4 b5 b6 b7 [],p∈L)→pKA false d T o L f caps (gVA i)
 far:∀ L,(∀ p∈zD b0 b1 b2 b3 b4 b5 b6 b7 [],p∈L)→dAA d T o L g gcaps (goN i)
theorem nQA(d:Deal)(T:TypeId→Prop)(o:Option Nat)(b0 b1 b2 b3 b4 b5 b6 b7 i:Nat)(hi:i < 5):∃ f g caps gcaps,Rule d T o b0 b1 b2 b3 b4 b5 b6 b7 i f g caps gcaps:=by
 have hword:∀ L,pKA false d T o L 168 #[] sK:=fun L c w hF=>e3A c w hF
 have hline:∀ L,pKA false d T o L 171 #[] (fun c=>(c.toNat:Int) != 10):=fun L c w hF=>g3A c w hF
 match i,hi with
 | 0,_=>exact⟨_,_,_,_,rfl,rfl,rfl,fun L _=>hword L,fun L hL=>rY L b2 (hword L) (hL _ (by simp[zD]))⟩
 | 1,_=>exact⟨_,_,_,_,rfl,rfl,rfl,fun L hL=>dW L b1 _ (hL _ (by simp[zD])),fun L hL=>rY L b3 (dW L b1 _ (hL _ (by simp[zD]))) (hL _ (by simp[zD]))⟩
 | 2,_=>exact⟨_,_,_,_,rfl,rfl,rfl,fun L hL=>dW L b4 _ (hL _ (by simp[zD])),fun L hL=>cQA L⟩
 | 3,_=>exact⟨_,_,_,_,rfl,rfl,rfl,fun L hL=>dW L b5 _ (hL _ (by simp[zD])),fun L hL=>cQA L⟩
 | 4,_=>exact⟨_,_,_,_,rfl,rfl,rfl,fun L hL=>dW L b6 _ (hL _ (by simp[zD])),fun L hL=>rY L b7 (hline L) (hL _ (by simp[zD]))⟩
def First(i:Nat)(c:UInt8):Prop:=i < 5∧gVA i c=true∧∀ j,j < i→gVA j c=false
def sAA(a:Act):Nat:=match a.tmps.getD 23 undef with | .int _ n=>(5 - n).toNat | _=>0
theorem xY(s:ByteArray)(c q k:Nat)(i:Nat)(J:Nat→Value):sAA ⟨dF s c q b0 k xb i J,df⟩=5 - i:=by
 have:(dF s c q b0 k xb i J).getD 23 undef = .int .i64 i:=rfl;simp only[sAA,this];omega
theorem fSA {x : Array Value} (s : ByteArray) (c q k i0 m : Nat) (J : Nat → Value) (hk : k < s.size) (hs : s.size ≤ 1000000) (hT95 : T 235) (hxs : x.size = 4)
    (hf:First i0 (s[k]'hk)) (hme:goN i0 (s.data.toList.drop k)=m) (hmn:k+m≤s.size) (hxL:∀ p∈zD b0 b1 b2 b3 b4 b5 b6 b7 [],p.1≠xb)
    (w:World) (hF:Holds d T (some xb) ((xb,Obj.cells x 199 (0,0))::zD b0 b1 b2 b3 b4 b5 b6 b7 []) w) :
    Code.wpC Tryz.prog false (Rely d T (some xb)) (Lx.Does d T (some xb)) 125 (.block 2 (.loop tL)) 10000000000000
      (Exit.then (fun a' w' => ∃ J', a' = ⟨dF s c q b0 k xb i0 J', df⟩ ∧
        Holds d T (some xb) ((xb,Obj.cells #[.int .i64 (iAA i0),.int .i64 (k:Int),.string (s.extract k (k+m)),.int .i64 0] 199 (0,0))::zD b0 b1 b2 b3 b4 b5 b6 b7 []) w') (fun _ _ _=>False)) ⟨dF s c q b0 k xb 0 J,df⟩ w:=by
  obtain⟨h5,hy,hn⟩:=hf;have hmem:(b0,Obj.cells (vL b1 b2 b3 b4 b5 b6 b7) 235 (0,0))∈zD b0 b1 b2 b3 b4 b5 b6 b7 []:=by simp[zD]
  have hsub:∀(b:Nat) (y:Obj),∀ p∈zD b0 b1 b2 b3 b4 b5 b6 b7 [],p∈(b,y)::(xb,Obj.cells x 199 (0,0))::zD b0 b1 b2 b3 b4 b5 b6 b7 []:=fun b y p hp=>List.mem_cons_of_mem _ (List.mem_cons_of_mem _ hp)
  refine wpC_more (wpC_block terms (wpC_loop terms (fun a w=>∃ i J,i≤i0∧a=⟨dF s c q b0 k xb (i:Nat) J,df⟩∧Holds d T (some xb) ((xb,Obj.cells x 199 (0,0))::zD b0 b1 b2 b3 b4 b5 b6 b7 []) w) (fun a _=>sAA a) 1000000000000 5 ⟨0,J,Nat.zero_le _,rfl,hF⟩ ?_ ?_)) (by decide)
  · have:=xY (df:=df) (b0:=b0) (xb:=xb) s c q k 0 J;exact Nat.le_of_eq this
  · rintro a w ⟨i, J, hi, rfl, hF⟩; rcases Nat.lt_or_ge i i0 with hlt | hge
    · obtain ⟨f, g, caps, gcaps, hr⟩ := nQA d T (some xb) b0 b1 b2 b3 b4 b5 b6 b7 i (by omega); refine wpC_more (wpC_mono (yZA (p := gVA i) s c q k i J hk (by omega) hT95 (List.mem_cons_of_mem _ hmem) hr.r0 hr.r1 hr.r2 (fun b y => hr.wish _ (hsub b y)) (hn i hlt) w hF) ?_) (by decide); rintro e a' w' h
      cases e with
      | normal =>
        obtain⟨J',rfl,hF'⟩:=h;refine⟨⟨i+1,J',hlt,rfl,hF'⟩,?_⟩
        show sAA _ < sAA _
        rw[xY,xY];omega
      | _=>exact h.elim
    · obtain rfl : i = i0 := by omega
      obtain⟨f,g,caps,gcaps,hr⟩:=nQA d T (some xb) b0 b1 b2 b3 b4 b5 b6 b7 i h5;refine wpC_mono (fYA (p:=gVA i) s c q k i J hk hs h5 hT95 hxs hmem hxL hr.r0 hr.r1 hr.r2 (fun b y=>hr.wish _ (hsub b y)) (fun b y=>hr.far _ (hsub b y)) hy (Lib.hid hme) hmn w hF) ?_;rintro e a' w' h
      cases e with
      | normal=>exact h.elim
      | exit id =>
        obtain⟨he,J',rfl,hF'⟩:=h
        cases he;exact⟨J',rfl,hF'⟩
      | ret=>cases h.1
      | goto l=>cases h.1
      | panic ch=>cases h.1
      | outgrown=>cases h.1
end
end Go.Proofs.YtggjbblgoddnjaaGreatDoor
