/- Part 16 of what the proof rests on. -/
import Derived.Lib.Hide
import Derived.IntWalk
import Derived.Test.YtggjbblgoddnjaaGreatDoorM08
import Derived.Test.YtggjbblgoddnjaaGreatDoorM15
set_option linter.unusedSimpArgs false
set_option linter.unusedVariables false
set_option maxRecDepth 100000
set_option maxHeartbeats 2000000
namespace Go.Proofs.YtggjbblgoddnjaaGreatDoor
open Go.Conc Go.Lx
section
variable {main : Bool} {d : Deal} {T : TypeId → Prop} {o : Option Nat} {L : List (Nat × Obj)}
def pKA(main:Bool)(d:Deal)(T:TypeId→Prop)(o:Option Nat)(L:List (Nat×Obj))(f:FuncId)(caps:Array Value)(p:UInt8→Bool):Prop :=
 ∀(c:UInt8) (w:World),Holds d T o L w→CallsC Tryz.prog main (Rely d T o) (Lx.Does d T o) f (#[.int .u8 c.toNat]++caps) 100 w fun v w'=>v = .bool (p c)∧Holds d T o L w'
def many(p:UInt8→Bool)(l:List UInt8):Nat:=(l.takeWhile p).length
theorem d0A(p:UInt8→Bool)(l:List UInt8):many p l≤l.length:=(List.takeWhile_sublist p).length_le
theorem sPA (p : UInt8 → Bool) : ∀ (l : List UInt8) (k : Nat), k ≤ many p l → ∀ (h : k < l.length), (p l[k] = true → k + 1 ≤ many p l) ∧ (p l[k] = false → k = many p l)
  | [],_,_,h=>by simp at h
  | x :: l, 0, hk, h => by
    simp only[many,List.takeWhile_cons,List.getElem_cons_zero];constructor<;>intro hp<;>simp[hp]
  | x :: l, k + 1, hk, h => by
    simp only[many,List.takeWhile_cons]at hk ⊢
    cases hx:p x with
    | false=>simp[hx]at hk
    | true =>
      simp only[hx,if_true,List.length_cons,List.getElem_cons_succ]at hk ⊢;have:=sPA p l k (by unfold many;omega) (by simpa using h);unfold many at this;exact⟨fun h=>by have:=this.1 h;omega,fun h=>by have:=this.2 h;omega⟩
def WAt(d:Deal)(T:TypeId→Prop)(o:Option Nat)(L:List (Nat×Obj))(s:ByteArray)(b:Nat)(k:Nat)(a:Act)(w:World):Prop :=
 ∃(u5 u6 u7 u8 u9 u10 u11 u12 u13 u14 u15 u16 u17 u18:Value),Holds d T o L w ∧
  a=⟨#[.string s,.pointer (some ⟨b,0,none⟩),undef,.int .i64 0,.int .i64 (k:Int),u5,u6,u7,u8,u9,u10,u11,u12,u13,u14,u15,u16,u17,u18],[]⟩
def z0A(a:Act):Nat:=match a.tmps.getD 4 undef with | .int _ n=>n.toNat | _=>0
theorem cXA{b:Nat}{f:FuncId}{caps:Array Value}{p:UInt8→Bool}(hW:pKA main d T o L f caps p)(hb:(b,Obj.cells #[.func (.func f) #[] caps] 175 (0,0))∈L)(s:ByteArray)(hs:s.size≤1000000)(w:World)(hF:Holds d T o L w) :
 CallsC Tryz.prog main (Rely d T o) (Lx.Does d T o) 185 #[.string s,.pointer (some ⟨b,0,none⟩)] ((s.size+1) * 6001+100) w fun v w'=>v = .int .i64 (many p s.data.toList)∧Holds d T o L w':=by
 co_apply Go.Lx.CallsC.more
 · co_apply callsC_of_wpC Tryz.func185 (by rfl) rfl; simp only [Tryz.ntmps185, List.size_toArray, List.length_cons, List.length_nil, Nat.reduceAdd, Nat.reduceSub, Array.replicate_succ, Array.replicate_zero, List.push_toArray, List.append_toArray, List.nil_append, List.cons_append]
   co_stmt terms Holds.rely hF (co_quiet terms)
   co_stmt terms Holds.rely hF (co_quiet terms)
   co_apply wpC_seq_mid terms (fun a w=>∃ k:Nat,k=many p s.data.toList∧WAt d T o L s b k a w)
   · co_apply wpC_block terms; co_apply wpC_loop terms (fun a w => ∃ k : Nat, k ≤ many p s.data.toList ∧ WAt d T o L s b k a w) (fun a _ => s.size - z0A a) 6000 s.size
     · exact⟨0,Nat.zero_le _,_,_,_,_,_,_,_,_,_,_,_,_,_,_,hF,rfl⟩
     · omega
     · clear hF; rintro a w ⟨k, hk, u5, u6, u7, u8, u9, u10, u11, u12, u13, u14, u15, u16, u17, u18, hF, rfl⟩; have hml := d0A p s.data.toList; have hsz : s.data.toList.length = s.size := rfl; by_cases hlt : k < s.size
       · have hat := sPA p s.data.toList k hk (by rw [hsz]; exact hlt); have hpk : s.data.toList[k] = s[k] := rfl; rw [hpk] at hat; clear hpk; have hin : 0 ≤ (k : Int) ∧ (k : Int) < s.size := by omega
         have HSZ:=Lib.hid hsz;clear hsz
         cases hp:p (s[k]'hlt)
         · rw [hp] at hat; have HAT := Lib.hid hat; clear hat; co_apply wpC_more
           · co_apply wpC_seq (n₂ := 50) terms; co_apply wpC_seq terms; co_apply zG terms draws 500 (by omega) (S := Holds d T o L) (by first | kernel_rfl | rfl); intro _ hR; replace hF := Holds.rely (Holds.rely hF hR) (nM _); clear hR; simp only [List.size_toArray, List.length_cons, List.length_nil, Nat.reduceAdd, Nat.zero_add]; co_applyP wB terms (fun _ _ => Holds.rely) (fun _ _ _ => wpC_rely terms) 0 rfl (by first | kernel_rfl | decide +kernel) (by rfl) hF (fun _ hw => ⟨?_, ?_⟩) ?_; rotate_left
             · intro K hK;go_simp;exact hK
             · co_quiet terms
             try walk_nrm
             co_applyP wB terms (fun _ _=>Holds.rely) (fun _ _ _=>wpC_rely terms) 1 rfl (by first | kernel_rfl | decide +kernel) (by rfl) hF (fun _ hw=>⟨?_,?_⟩) ?_;rotate_left
             · intro K hK;go_simp;exact hK
             · co_quiet terms
             try walk_nrm
             co_applyP wB terms (fun _ _=>Holds.rely) (fun _ _ _=>wpC_rely terms) 2 rfl (by first | kernel_rfl | decide +kernel) (by rfl) hF (fun _ hw=>⟨?_,?_⟩) ?_;rotate_left
             · intro K hK;go_simp;exact hK
             · rw[listed_nil (by simp[go_sem,tH _ _ _ Tryz.underlying9])];exact Terms.idle terms _
             try walk_nrm
             co_applyP wB terms (fun _ _=>Holds.rely) (fun _ _ _=>wpC_rely terms) 3 rfl (by first | kernel_rfl | decide +kernel) (by rfl) hF (fun _ hw=>⟨?_,?_⟩) ?_;rotate_left
             · intro K hK;go_simp;exact hK
             · co_quiet terms
             try walk_nrm
             co_applyP wB terms (fun _ _=>Holds.rely) (fun _ _ _=>wpC_rely terms) 4 rfl (by first | kernel_rfl | decide +kernel) (by rfl) hF (fun _ hw=>⟨?_,?_⟩) ?_;rotate_left
             · intro K hK;go_simp;exact hK
             · co_quiet terms
             try walk_nrm
             co_applyP wB terms (fun _ _=>Holds.rely) (fun _ _ _=>wpC_rely terms) 5 rfl (by first | kernel_rfl | decide +kernel) (by rfl) hF (fun _ hw=>⟨?_,?_⟩) ?_;rotate_left
             · intro K hK;have hc:_=some (Value.func (.func f) #[] caps):=hw.cell hb 0;go_simp;exact hK
             · have hc:_=some (Value.func (.func f) #[] caps):=hw.cell hb 0;refine Does.reads ?_;co_evs (exact hw.read hb _ _)
             try walk_nrm
             co_applyP wB terms (fun _ _=>Holds.rely) (fun _ _ _=>wpC_rely terms) 6 rfl (by first | kernel_rfl | decide +kernel) (by rfl) hF (fun _ hw=>⟨?_,?_⟩) ?_;rotate_left
             · intro K hK;go_simp;exact hK
             · co_quiet terms
             try walk_nrm
             co_applyP wB terms (fun _ _=>Holds.rely) (fun _ _ _=>wpC_rely terms) 7 rfl (by first | kernel_rfl | decide +kernel) (by rfl) hF (fun _ hw=>⟨?_,?_⟩) ?_;rotate_left
             · intro K hK;go_simp;exact hK
             · co_quiet terms
             try walk_nrm
             co_applyP wB terms (fun _ _=>Holds.rely) (fun _ _ _=>wpC_rely terms) 8 rfl (by first | kernel_rfl | decide +kernel) (by rfl) hF (fun _ hw=>⟨?_,?_⟩) ?_;rotate_left
             · intro K hK;go_simp;exact hK
             · rw[listed_nil (by simp[go_sem,uI _ _ _ _ Tryz.underlying9 hin])];exact Terms.idle terms _
             try walk_nrm
             co_applyP oM terms (i:=9) (by first | kernel_rfl | decide +kernel) rfl (by rfl) rfl (by rfl) (hW (s[k]'hlt) _ hF) (by omega) (by simp[Act.eval]);clear hF;rintro v w ⟨rfl,hF⟩;rw[hp];refine⟨hF,?_⟩
             try walk_nrm
             co_applyP wB terms (fun _ _=>Holds.rely) (fun _ _ _=>wpC_rely terms) 10 rfl (by first | kernel_rfl | decide +kernel) (by rfl) hF (fun _ hw=>⟨?_,?_⟩) ?_;rotate_left
             · intro K hK;go_simp;exact hK
             · co_quiet terms
             try walk_nrm
             refine xJ (by first | kernel_rfl | decide +kernel) ?_ _;co_then;co_apply wpC_cond (t:=false) terms rfl;simp only[Bool.false_eq_true,if_false];co_ctl terms;co_then;exact⟨k,HAT.out.2 rfl,_,_,_,_,_,_,_,_,_,_,_,_,_,_,hF,rfl⟩
           · decide
         · rw [hp] at hat; have HAT := Lib.hid hat; clear hat; co_apply wpC_more
           · co_apply wpC_seq terms; co_apply wpC_seq terms; co_apply zG terms draws 500 (by omega) (S := Holds d T o L) (by first | kernel_rfl | rfl); intro _ hR; replace hF := Holds.rely (Holds.rely hF hR) (nM _); clear hR; simp only [List.size_toArray, List.length_cons, List.length_nil, Nat.reduceAdd, Nat.zero_add]; co_applyP wB terms (fun _ _ => Holds.rely) (fun _ _ _ => wpC_rely terms) 0 rfl (by first | kernel_rfl | decide +kernel) (by rfl) hF (fun _ hw => ⟨?_, ?_⟩) ?_; rotate_left
             · intro K hK;go_simp;exact hK
             · co_quiet terms
             try walk_nrm
             co_applyP wB terms (fun _ _=>Holds.rely) (fun _ _ _=>wpC_rely terms) 1 rfl (by first | kernel_rfl | decide +kernel) (by rfl) hF (fun _ hw=>⟨?_,?_⟩) ?_;rotate_left
             · intro K hK;go_simp;exact hK
             · co_quiet terms
             try walk_nrm
             co_applyP wB terms (fun _ _=>Holds.rely) (fun _ _ _=>wpC_rely terms) 2 rfl (by first | kernel_rfl | decide +kernel) (by rfl) hF (fun _ hw=>⟨?_,?_⟩) ?_;rotate_left
             · intro K hK;go_simp;exact hK
             · rw[listed_nil (by simp[go_sem,tH _ _ _ Tryz.underlying9])];exact Terms.idle terms _
             try walk_nrm
             co_applyP wB terms (fun _ _=>Holds.rely) (fun _ _ _=>wpC_rely terms) 3 rfl (by first | kernel_rfl | decide +kernel) (by rfl) hF (fun _ hw=>⟨?_,?_⟩) ?_;rotate_left
             · intro K hK;go_simp;exact hK
             · co_quiet terms
             try walk_nrm
             co_applyP wB terms (fun _ _=>Holds.rely) (fun _ _ _=>wpC_rely terms) 4 rfl (by first | kernel_rfl | decide +kernel) (by rfl) hF (fun _ hw=>⟨?_,?_⟩) ?_;rotate_left
             · intro K hK;go_simp;exact hK
             · co_quiet terms
             try walk_nrm
             co_applyP wB terms (fun _ _=>Holds.rely) (fun _ _ _=>wpC_rely terms) 5 rfl (by first | kernel_rfl | decide +kernel) (by rfl) hF (fun _ hw=>⟨?_,?_⟩) ?_;rotate_left
             · intro K hK;have hc:_=some (Value.func (.func f) #[] caps):=hw.cell hb 0;go_simp;exact hK
             · have hc:_=some (Value.func (.func f) #[] caps):=hw.cell hb 0;refine Does.reads ?_;co_evs (exact hw.read hb _ _)
             try walk_nrm
             co_applyP wB terms (fun _ _=>Holds.rely) (fun _ _ _=>wpC_rely terms) 6 rfl (by first | kernel_rfl | decide +kernel) (by rfl) hF (fun _ hw=>⟨?_,?_⟩) ?_;rotate_left
             · intro K hK;go_simp;exact hK
             · co_quiet terms
             try walk_nrm
             co_applyP wB terms (fun _ _=>Holds.rely) (fun _ _ _=>wpC_rely terms) 7 rfl (by first | kernel_rfl | decide +kernel) (by rfl) hF (fun _ hw=>⟨?_,?_⟩) ?_;rotate_left
             · intro K hK;go_simp;exact hK
             · co_quiet terms
             try walk_nrm
             co_applyP wB terms (fun _ _=>Holds.rely) (fun _ _ _=>wpC_rely terms) 8 rfl (by first | kernel_rfl | decide +kernel) (by rfl) hF (fun _ hw=>⟨?_,?_⟩) ?_;rotate_left
             · intro K hK;go_simp;exact hK
             · rw[listed_nil (by simp[go_sem,uI _ _ _ _ Tryz.underlying9 hin])];exact Terms.idle terms _
             try walk_nrm
             co_applyP oM terms (i:=9) (by first | kernel_rfl | decide +kernel) rfl (by rfl) rfl (by rfl) (hW (s[k]'hlt) _ hF) (by omega) (by simp[Act.eval]);clear hF;rintro v w ⟨rfl,hF⟩;rw[hp];refine⟨hF,?_⟩
             try walk_nrm
             co_applyP wB terms (fun _ _=>Holds.rely) (fun _ _ _=>wpC_rely terms) 10 rfl (by first | kernel_rfl | decide +kernel) (by rfl) hF (fun _ hw=>⟨?_,?_⟩) ?_;rotate_left
             · intro K hK;go_simp;exact hK
             · co_quiet terms
             try walk_nrm
             refine xJ (by first | kernel_rfl | decide +kernel) ?_ _;co_then;co_apply wpC_cond (t:=true) terms rfl;simp only[if_true];co_ctl terms;co_then
             repeat (first | co_reg terms | co_op Holds.rely hF (co_quiet terms) | (co_apply opsC_unwanted terms rfl (by rfl);try walk_nrm) | (co_ctl terms;try co_then))
             have hwr:IntKind.i64.wrap ((k:Int)+1)=((k+1:Nat):Int):=by rw[IntWalk.i64_in _ (by omega)];omega
             rw[hwr];exact⟨⟨k+1,HAT.out.1 rfl,_,_,_,_,_,_,_,_,_,_,_,_,_,_,hF,rfl⟩,by simp[z0A];omega⟩
           · decide
       · have hke : k = many p s.data.toList := by omega
         have HKE:=Lib.hid hke;clear hke hsz;co_apply wpC_more
         · co_apply wpC_seq (n₂ := 50) terms; co_apply wpC_seq terms; co_apply zG terms draws 500 (by omega) (S := Holds d T o L) (by first | kernel_rfl | rfl); intro _ hR; replace hF := Holds.rely (Holds.rely hF hR) (nM _); clear hR; simp only [List.size_toArray, List.length_cons, List.length_nil, Nat.reduceAdd, Nat.zero_add]; co_applyP wB terms (fun _ _ => Holds.rely) (fun _ _ _ => wpC_rely terms) 0 rfl (by first | kernel_rfl | decide +kernel) (by rfl) hF (fun _ hw => ⟨?_, ?_⟩) ?_; rotate_left
           · intro K hK;go_simp;exact hK
           · co_quiet terms
           try walk_nrm
           co_applyP wB terms (fun _ _=>Holds.rely) (fun _ _ _=>wpC_rely terms) 1 rfl (by first | kernel_rfl | decide +kernel) (by rfl) hF (fun _ hw=>⟨?_,?_⟩) ?_;rotate_left
           · intro K hK;go_simp;exact hK
           · co_quiet terms
           try walk_nrm
           co_applyP wB terms (fun _ _=>Holds.rely) (fun _ _ _=>wpC_rely terms) 2 rfl (by first | kernel_rfl | decide +kernel) (by rfl) hF (fun _ hw=>⟨?_,?_⟩) ?_;rotate_left
           · intro K hK;go_simp;exact hK
           · rw[listed_nil (by simp[go_sem,tH _ _ _ Tryz.underlying9])];exact Terms.idle terms _
           try walk_nrm
           co_applyP wB terms (fun _ _=>Holds.rely) (fun _ _ _=>wpC_rely terms) 3 rfl (by first | kernel_rfl | decide +kernel) (by rfl) hF (fun _ hw=>⟨?_,?_⟩) ?_;rotate_left
           · intro K hK;go_simp;exact hK
           · co_quiet terms
           try walk_nrm
           co_applyP wB terms (fun _ _=>Holds.rely) (fun _ _ _=>wpC_rely terms) 4 rfl (by first | kernel_rfl | decide +kernel) (by rfl) hF (fun _ hw=>⟨?_,?_⟩) ?_;rotate_left
           · intro K hK;go_simp;exact hK
           · co_quiet terms
           try walk_nrm
           co_applyP qV terms (fun _ _=>Holds.rely) (fun _ _ _=>wpC_rely terms) 5 rfl (by first | kernel_rfl | decide +kernel) (by rfl) hF ?_
           try walk_nrm
           co_applyP qV terms (fun _ _=>Holds.rely) (fun _ _ _=>wpC_rely terms) 6 rfl (by first | kernel_rfl | decide +kernel) (by rfl) hF ?_
           try walk_nrm
           co_applyP qV terms (fun _ _=>Holds.rely) (fun _ _ _=>wpC_rely terms) 7 rfl (by first | kernel_rfl | decide +kernel) (by rfl) hF ?_
           try walk_nrm
           co_applyP qV terms (fun _ _=>Holds.rely) (fun _ _ _=>wpC_rely terms) 8 rfl (by first | kernel_rfl | decide +kernel) (by rfl) hF ?_
           try walk_nrm
           co_applyP qV terms (fun _ _=>Holds.rely) (fun _ _ _=>wpC_rely terms) 9 rfl (by first | kernel_rfl | decide +kernel) (by rfl) hF ?_
           try walk_nrm
           co_applyP wB terms (fun _ _=>Holds.rely) (fun _ _ _=>wpC_rely terms) 10 rfl (by first | kernel_rfl | decide +kernel) (by rfl) hF (fun _ hw=>⟨?_,?_⟩) ?_;rotate_left
           · intro K hK;go_simp;exact hK
           · co_quiet terms
           try walk_nrm
           refine xJ (by first | kernel_rfl | decide +kernel) ?_ _;co_then;co_apply wpC_cond (t:=false) terms rfl;simp only[Bool.false_eq_true,if_false];co_ctl terms;co_then;exact⟨k,HKE.out,_,_,_,_,_,_,_,_,_,_,_,_,_,_,hF,rfl⟩
         · decide
   · clear hF; rintro a w ⟨k, rfl, u5, u6, u7, u8, u9, u10, u11, u12, u13, u14, u15, u16, u17, u18, hF, rfl⟩
     repeat (first | co_reg terms | co_op Holds.rely hF (co_quiet terms) | (co_apply opsC_unwanted terms rfl (by rfl);try walk_nrm) | (co_ctl terms;try co_then))
     exact⟨rfl,_,resultsC_tmp (by rfl) _,by simp,hF⟩
 · omega
end
section
variable {main : Bool} {d : Deal} {T : TypeId → Prop} {o : Option Nat} {L : List (Nat × Obj)}
theorem m0A(hT:T 9)(s:ByteArray)(w:World)(hF:Holds d T o L w) :
 CallsC Tryz.prog main (Rely d T o) (Lx.Does d T o) 167 #[.string s] 30 w fun v w'=>∃ b,v = .func (.func 183) #[] #[.pointer (some ⟨b,0,none⟩)]∧Holds d T o ((b,Obj.cells #[.string s] 9 (0,0))::L) w':=by
 co_apply Go.Lx.CallsC.more
 · co_apply callsC_of_wpC Tryz.func167 (by rfl) rfl; simp only [Tryz.ntmps167, List.size_toArray, List.length_cons, List.length_nil, Nat.reduceAdd, Nat.reduceSub, Array.replicate_succ, Array.replicate_zero, List.push_toArray, List.append_toArray, List.nil_append, List.cons_append]; co_apply wpC_seq terms
   co_reg terms
   co_opw Holds.rely hF (skip) (refine⟨Turn.alloc hT hF.box,?_⟩;co_evs (skip))
   replace hF:=hF.cons #[.string s] hT
   repeat (first | co_reg terms | co_op Holds.rely hF (co_quiet terms) | (co_apply opsC_unwanted terms rfl (by rfl);try walk_nrm) | (co_ctl terms;try co_then))
   exact⟨rfl,_,resultsC_tmp (by rfl) _,_,by simp,hF⟩
 · decide
theorem pHA(hT:T 175)(f:FuncId)(caps:Array Value)(w:World)(hF:Holds d T o L w) :
 CallsC Tryz.prog main (Rely d T o) (Lx.Does d T o) 169 #[.func (.func f) #[] caps] 30 w fun v w'=>∃ b,v = .func (.func 185) #[] #[.pointer (some ⟨b,0,none⟩)]∧Holds d T o ((b,Obj.cells #[.func (.func f) #[] caps] 175 (0,0))::L) w':=by
 co_apply Go.Lx.CallsC.more
 · co_apply callsC_of_wpC Tryz.func169 (by rfl) rfl; simp only [Tryz.ntmps169, List.size_toArray, List.length_cons, List.length_nil, Nat.reduceAdd, Nat.reduceSub, Array.replicate_succ, Array.replicate_zero, List.push_toArray, List.append_toArray, List.nil_append, List.cons_append]; co_apply wpC_seq terms
   co_reg terms
   co_opw Holds.rely hF (skip) (refine⟨Turn.alloc hT hF.box,?_⟩;co_evs (skip))
   replace hF:=hF.cons #[.func (.func f) #[] caps] hT
   repeat (first | co_reg terms | co_op Holds.rely hF (co_quiet terms) | (co_apply opsC_unwanted terms rfl (by rfl);try walk_nrm) | (co_ctl terms;try co_then))
   exact⟨rfl,_,resultsC_tmp (by rfl) _,_,by simp,hF⟩
 · decide
def bytes(l:List UInt8):ByteArray:=⟨l.toArray⟩
def vL(b1 b2 b3 b4 b5 b6 b7:Nat):Array Value :=
 #[.func (.func 168) #[] #[], .func (.func 185) #[] #[.pointer (some ⟨b2, 0, none⟩)], .int .i64 1,
   .func (.func 183) #[] #[.pointer (some ⟨b1,0,none⟩)],.func (.func 185) #[] #[.pointer (some ⟨b3,0,none⟩)],.int .i64 0,
   .func (.func 183) #[] #[.pointer (some ⟨b4,0,none⟩)],.func (.func 170) #[] #[],.int .i64 2,
   .func (.func 183) #[] #[.pointer (some ⟨b5,0,none⟩)],.func (.func 170) #[] #[],.int .i64 3,
   .func (.func 183) #[] #[.pointer (some ⟨b6,0,none⟩)],.func (.func 185) #[] #[.pointer (some ⟨b7,0,none⟩)],.int .i64 0]
def zD(b0 b1 b2 b3 b4 b5 b6 b7:Nat)(L:List (Nat×Obj)):List (Nat×Obj) :=
 (b0,Obj.cells (vL b1 b2 b3 b4 b5 b6 b7) 235 (0,0)) ::
 (b7,Obj.cells #[.func (.func 171) #[] #[]] 175 (0,0)) ::
 (b6,Obj.cells #[.string ⟨#[59]⟩] 9 (0,0)) ::
 (b5,Obj.cells #[.string ⟨#[41]⟩] 9 (0,0)) ::
 (b4,Obj.cells #[.string ⟨#[40]⟩] 9 (0,0)) ::
 (b3,Obj.cells #[.func (.func 183) #[] #[.pointer (some ⟨b1,0,none⟩)]] 175 (0,0)) ::
 (b2,Obj.cells #[.func (.func 168) #[] #[]] 175 (0,0)) ::
 (b1,Obj.cells #[.string ⟨#[9,10,13,32]⟩] 9 (0,0))::L
theorem wYA(hT9:T 9)(hT34:T 175)(hT95:T 235)(w:World)(hF:Holds d T o L w) :
 CallsC Tryz.prog main (Rely d T o) (Lx.Does d T o) 149 #[] 1000 w fun v w'=>∃ b0 b1 b2 b3 b4 b5 b6 b7,v = .slice (some ⟨b0,0,none⟩) 5 5∧Holds d T o (zD b0 b1 b2 b3 b4 b5 b6 b7 L) w':=by
 co_apply Go.Lx.CallsC.more
 · co_apply callsC_of_wpC Tryz.func149 (by rfl) rfl; simp only [Tryz.ntmps149, List.size_toArray, List.length_cons, List.length_nil, Nat.reduceAdd, Nat.reduceSub, Array.replicate_succ, Array.replicate_zero, List.push_toArray, List.append_toArray, List.nil_append, List.cons_append]
   co_stmt terms Holds.rely hF (co_quiet terms)
   co_apply wpC_seq terms
   co_reg terms
   co_apply nG terms rfl (by rfl) rfl (m0A hT9 _ _ hF) (by simp[Act.eval];rfl);clear hF;rintro v w ⟨b1,rfl,hF⟩
   try walk_nrm
   co_op Holds.rely hF (co_quiet terms);co_apply opsC_nil terms;co_then;co_apply wpC_seq terms
   co_reg terms
   co_apply nG terms rfl (by rfl) rfl (pHA hT34 _ _ _ hF) (by simp[Act.eval];exact⟨rfl,rfl⟩);clear hF;rintro v w ⟨b2,rfl,hF⟩
   try walk_nrm
   co_op Holds.rely hF (co_quiet terms);co_op Holds.rely hF (co_quiet terms);co_op Holds.rely hF (co_quiet terms);co_apply nG terms rfl (by rfl) rfl (pHA hT34 _ _ _ hF) (by simp[Act.eval];exact⟨rfl,rfl⟩);clear hF;rintro v w ⟨b3,rfl,hF⟩
   try walk_nrm
   co_op Holds.rely hF (co_quiet terms);co_apply nG terms rfl (by rfl) rfl (m0A hT9 _ _ hF) (by simp[Act.eval];rfl);clear hF;rintro v w ⟨b4,rfl,hF⟩
   try walk_nrm
   co_op Holds.rely hF (co_quiet terms);co_apply nG terms rfl (by rfl) rfl (m0A hT9 _ _ hF) (by simp[Act.eval];rfl);clear hF;rintro v w ⟨b5,rfl,hF⟩
   try walk_nrm
   co_op Holds.rely hF (co_quiet terms);co_apply nG terms rfl (by rfl) rfl (m0A hT9 _ _ hF) (by simp[Act.eval];rfl);clear hF;rintro v w ⟨b6,rfl,hF⟩
   try walk_nrm
   co_apply nG terms rfl (by rfl) rfl (pHA hT34 _ _ _ hF) (by simp[Act.eval];exact⟨rfl,rfl⟩);clear hF;rintro v w ⟨b7,rfl,hF⟩
   try walk_nrm
   co_op Holds.rely hF (co_quiet terms)
   co_opw Holds.rely hF (skip) (refine⟨Turn.alloc hT95 hF.box,?_⟩;co_evs (skip))
   replace hF:=hF.cons (vL b1 b2 b3 b4 b5 b6 b7) hT95
   repeat (first | co_reg terms | co_op Holds.rely hF (co_quiet terms) | (co_apply opsC_unwanted terms rfl (by rfl);try walk_nrm) | (co_ctl terms;try co_then))
   exact⟨rfl,_,resultsC_tmp (by rfl) _,_,_,_,_,_,_,_,_,by simp,hF⟩
 · decide
end
end Go.Proofs.YtggjbblgoddnjaaGreatDoor
