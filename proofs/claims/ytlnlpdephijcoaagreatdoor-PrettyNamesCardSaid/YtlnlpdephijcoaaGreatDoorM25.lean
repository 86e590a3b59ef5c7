/- Part 25 of what the proof rests on. -/
import Derived.Deep.RegionLaw
import Derived.Deep.RegionHeld3
import Derived.Deep.AppendLies
import Derived.Conc.CompanyMem
import Derived.Conc.WalkWords
import Derived.Lib.SlBytesRow
import Derived.Lib.BufferRead
import Derived.Test.YtlnlpdephijcoaaGreatDoorM00
import Derived.Test.YtlnlpdephijcoaaGreatDoorM11
import Derived.Test.YtlnlpdephijcoaaGreatDoorM16
import Derived.Test.YtlnlpdephijcoaaGreatDoorM23
import Derived.Test.YtlnlpdephijcoaaGreatDoorM24
set_option linter.unusedSimpArgs false
set_option linter.unusedVariables false
set_option maxRecDepth 100000
set_option maxHeartbeats 4000000
namespace Go.Proofs.YtlnlpdephijcoaaGreatDoor
open Go.Lx Go.RowKit
theorem Tryz.infoNode8:(Tryz.prog.info? 76).map (fun i=>(i.zero,i.size,i.bytes))=some (some (.agg #[.int .i64 0,.int .i64 0,.int .i64 0,.string ⟨#[]⟩]),4,40):=by kernel_rfl
theorem wSA{w:World}{m2:Nat}(h:MapAt w m2 aloneL)(s:ByteArray):(Instr.lookup 61 (.map (some m2)) (.string s) true).run Tryz.prog w = .ok (.tuple #[((zN s).map fun k=>gP k 0).getD (gP 0 0),.bool (zN s).isSome]) w:=by
 have:=(h.lookup (k:=s) (kt:=9) (et:=76) Tryz.underlying61 Tryz.underlying9 (vU w)).1;rw[zIA,Option.isSome_map]at this;exact this
theorem aFA{w w':World}{a b i j:Nat}{u v:Value}{m:Nat}{ks:lD}(hU:Under w w')(h:a < w.heap.size∧b < w.heap.size∧w.cell? ⟨a,i,none⟩=some u∧w.cell? ⟨b,j,none⟩=some v∧MapAt w m ks):w'.cell? ⟨a,i,none⟩=some u∧w'.cell? ⟨b,j,none⟩=some v∧MapAt w' m ks :=
 ⟨(jA hU h.1 _).trans h.2.2.1,(jA hU h.2.1 _).trans h.2.2.2.1,h.2.2.2.2.under hU⟩
def rDB(w:World)(b:Nat)(x:Nd):Prop:=w.cell? ⟨b,0,none⟩=some (.int .i64 x.k)∧w.cell? ⟨b,1,none⟩=some (.int .i64 x.n)∧w.cell? ⟨b,2,none⟩=some (.int .i64 x.m)∧w.cell? ⟨b,3,none⟩=some (.string x.s)
def wCA(x:Nd):Array Value:=#[.int .i64 x.k,.int .i64 x.n,.int .i64 x.m,.string x.s]
theorem wG{w:World}{b:Nat}{x:Nd}(h:BoxAt w b 76 (wCA x)):rDB w b x:=⟨h.cell 0,h.cell 1,h.cell 2,h.cell 3⟩
section
variable {W0 w w1 w2 : World} {rb m1 m2 nb g c : Nat} {cv dv ov : Value} {acc : List Nd} {p e : Int} {x : Nd}
theorem jVA(h:ReS W0 rb m1 m2 cv dv ov acc p e w)(hn:BoxAt w nb 76 (wCA x))(hne:ov.ownBlock≠some nb)(hU:Under w w2)(hg:w2.grownBy w1 ov.ownBlock):BoxAt w1 nb 76 (wCA x):=(hn.under hU).grown hg fun e=>hne e.symm
theorem ReOut.back{R:Say}{y:Ending}(hU:Under w w1)(h:ReOut W0 rb m1 m2 cv dv ov acc w1 R y w2):ReOut W0 rb m1 m2 cv dv ov acc w R y w2:=by
 obtain⟨ov',acc',p',e',h1,h2,h3,h4⟩:=h;exact⟨ov',acc',p',e',h1,(Ch.of_under hU).trans h2 (fun i _ h=>h),fun b hb e=>h3 b (by have:=hU.size;omega) e,h4⟩
theorem kW (h : ReS W0 rb m1 m2 cv dv ov acc p e w) (hU : Under w w2) (hg : w2.grownBy w1 ov.ownBlock) (hat : ov.ownBlock = some g ∨ g = w2.heap.size)
    (hown:w1.ownsRow W0.heap.size 76 4 (.slice (some ⟨g,0,none⟩) (acc.length+1) c) (acc.length+1) (zB acc++[.int .i64 x.k,.int .i64 x.n,.int .i64 x.m,.string x.s])) :
    ReS W0 rb m1 m2 cv dv (.slice (some ⟨g,0,none⟩) (acc.length+1) c) (acc++[x]) p e (w1.setCell ⟨rb,4,none⟩ (.slice (some ⟨g,0,none⟩) (acc.length+1) c))∧Ch (dH rb ov) w (w1.setCell ⟨rb,4,none⟩ (.slice (some ⟨g,0,none⟩) (acc.length+1) c))∧(∀ b,b < w.heap.size→(Value.slice (some ⟨g,0,none⟩) (acc.length+1) c).ownBlock=some b→ov.ownBlock=some b):=by
  have h2:=h.under hU;have hb1:=h2.box.grown hg (fun e=>h2.ov_rb e.symm);have hc:Ch (dH rb ov) w w1:=(Ch.of_under hU).grown hg fun g e _=>.inr e
  have hc2:Ch (dH rb ov) w2 w1:=(Ch.refl _).grown hg fun g e _=>.inr e
  refine⟨⟨?_,?_,?_,?_,?_,h.lo⟩,hc.set (fun _=>.inl rfl) 4 _,?_⟩
  · exact hb1.set 4 _
  · exact uV (uV h2.f hc2 (fun e=>by rcases e with e | e;exact h2.rb_m1 e.symm;exact h2.ov_m1 e)) ((Ch.refl (C:=fun b=>b=rb) w1).set (g:=rb) (fun _=>rfl) 4 _) (fun e=>h2.rb_m1 e.symm)
  · exact uV (uV h2.a hc2 (fun e=>by rcases e with e | e;exact h2.rb_m2 e.symm;exact h2.ov_m2 e)) ((Ch.refl (C:=fun b=>b=rb) w1).set (g:=rb) (fun _=>rfl) 4 _) (fun e=>h2.rb_m2 e.symm)
  · have:=kK hown (b:=rb) (jC hb1 hown (by decide)) 4 (.slice (some ⟨g,0,none⟩) (acc.length+1) c);rw[List.length_append,oN];exact this
  · exact zK h.und (hc.set (fun _=>.inl rfl) 4 _) h.low
  · intro b hb e; have e : g = b := by simpa [Value.ownBlock] using e
    subst e;rcases hat with h | h
    · exact h
    · have:=hU.size;omega
end
theorem nRA{P:Program}{c:Code}{Q:Exit→Act→World→Prop}{A:Array Value}{F:(Nat→Value)→Array Value}{df:List Deferred}{w:World}(hA:A=F fun n=>A.getD n undef)(h:∀ J,c.wp P Q ⟨F J,df⟩ w):c.wp P Q ⟨A,df⟩ w:=by
 have:=h fun n=>A.getD n undef
 rw[← hA]at this;exact this
noncomputable def l5A:Code:=Tryz.f55.body.getD .skip
noncomputable def wdPush:Code:=xA (fA (fA (fA (fA (fA (fA l5A))))))
def kL(rb nb:Nat)(J:Nat→Value):Array Value:=#[.pointer (some ⟨rb,0,none⟩),J 1,J 2,J 3,J 4,J 5,.bool false,.pointer (some ⟨nb,0,none⟩),J 8,J 9,J 10,J 11,J 12,J 13,J 14,J 15,J 16,J 17,J 18,J 19,J 20,J 21,J 22,J 23,J 24,J 25,J 26,J 27,J 28,J 29,J 30,J 31,J 32,J 33,J 34,J 35,J 36,J 37,J 38,J 39,J 40,J 41,J 42,J 43,J 44,J 45,J 46,J 47,J 48,J 49,J 50,J 51,J 52,J 53,J 54,J 55,J 56,J 57,J 58,J 59,J 60,J 61,J 62,J 63,J 64,J 65,J 66,J 67,J 68,J 69,J 70,J 71,J 72,J 73,J 74,J 75,J 76,J 77,J 78]
def xCB(W0:World)(rb nb m1 m2:Nat)(cv dv ov:Value)(acc:List Nd)(p e:Int)(x:Nd)(w4:World)(ex:Exit)(a':Act)(w':World):Prop :=
 ex = .normal∧(∃ J,a'=⟨kL rb nb J,[]⟩)∧∃ ov',ReS W0 rb m1 m2 cv dv ov' (acc++[x]) p e w'∧Ch (dH rb ov) w4 w'∧(∀ b,b < w4.heap.size→ov'.ownBlock=some b→ov.ownBlock=some b)
theorem mLA{W0 w4:World}{rb m1 m2 nb:Nat}{cv dv ov:Value}{acc:List Nd}{p e:Int}{x:Nd}(hR:ReS W0 rb m1 m2 cv dv ov acc p e w4)(hn:BoxAt w4 nb 76 (wCA x))(hne:ov.ownBlock≠some nb)(hrn:rb≠nb)(ha:acc.length≤1000000)(J:Nat→Value) :
 wdPush.wp Tryz.prog (xCB W0 rb nb m1 m2 cv dv ov acc p e x w4) ⟨kL rb nb J,[]⟩ w4:=by
 obtain⟨i0,hi,hz0,hz1,hz2⟩:=info_parts Tryz.infoNode8;obtain⟨xk,xn,xm,xs⟩:=x;have HNy:=Lib.hid hn;have y4:=hR.box.cell 4;have yl:=hR.box.lt;have HRy:=Lib.hid hR;have nd0:=wG (x:=⟨xk,xn,xm,xs⟩) hn;have HNv:RowKit.Hid (ov.ownBlock≠some nb):=Lib.hid hne;have HNr:RowKit.Hid (rb≠nb):=Lib.hid hrn;have hmx:acc.length+1≤maxLen:=by simp only[maxLen];omega
 have hby:(acc.length+1) * 40≤140737488355328:=by omega
 have hlo:W0.heap.size≤w4.heap.size:=hR.und.size;clear hR hn hne hrn;unfold wdPush l5A;simp only[Tryz.f55,Option.getD_some,xA,fA];unfold kL;refine wp_region_noPanic ?_;refine wp_region_held_drew (S:=fun w'=>w'.cell? ⟨nb,0,none⟩=some (.int .i64 (xk))∧w'.cell? ⟨nb,1,none⟩=some (.int .i64 (xn))∧w'.cell? ⟨nb,2,none⟩=some (.int .i64 (xm))∧w'.cell? ⟨nb,3,none⟩=some (.string xs)) (by kernel_rfl) nd0 (fun hHeld=>?_);co_applyP aB 0 rfl (by kernel_rfl) (by kernel_rfl) (fun _ _ _ h=>h) hHeld (fun w hSw=>?_) ?_;rotate_left
 · (try dsimp only at hSw);go_simp;try with_reducible rfl
 try walk_nrm
 co_applyP aB 1 rfl (by kernel_rfl) (by kernel_rfl) (fun _ _ _ h=>h) hHeld (fun w hSw=>?_) ?_;rotate_left
 · (try dsimp only at hSw);go_simp;try with_reducible rfl
 try walk_nrm
 co_applyP aB 2 rfl (by kernel_rfl) (by kernel_rfl) (fun _ _ _ h=>h) hHeld (fun w hSw=>?_) ?_;rotate_left
 · (try dsimp only at hSw);go_simp;try with_reducible rfl
 try walk_nrm
 co_applyP aB 3 rfl (by kernel_rfl) (by kernel_rfl) (fun _ _ _ h=>h) hHeld (fun w hSw=>?_) ?_;rotate_left
 · (try dsimp only at hSw);go_simp;try with_reducible rfl
 try walk_nrm
 co_applyP aB 5 rfl (by kernel_rfl) (by kernel_rfl) (fun _ _ _ h=>h) hHeld (fun w hSw=>?_) ?_;rotate_left
 · (try dsimp only at hSw);go_simp;try with_reducible rfl
 try walk_nrm
 refine bT 4 6 (by kernel_rfl) rfl rfl (fun K hK=>?_) (fun K hK=>?_)
 · go_simp; refine hK.out _ _ hHeld (fun _ => ?_); clear hK K hHeld; rename_i hHeld
   try walk_nrm
   refine kD 6 (by kernel_rfl) rfl fun K hK=>?_
   go_simp;refine hK.out _ _ ?_ (fun _=>?_)
   · exact wG (x:=⟨xk,xn,xm,xs⟩) ((HNy.out).under (by first | exact bA (Under.refl _) | exact bA (aA (Under.refl _) _) | exact aA (bA (Under.refl _)) _))
   clear hK K hHeld;rename_i hHeld
   try walk_nrm
   refine kD 7 (by kernel_rfl) rfl fun K hK=>?_
   refine step_append_lies _ (by rfl) _ _ _ (by rfl) W0.heap.size 76 i0 _ 4 40 Tryz.underlying30 hi hz0 hz1 hz2 rfl (by omega) ov acc.length (zB acc) (by rfl) (uA HRy.out.row (by first | exact bA (aA (Under.refl _) _) | exact aA (bA (Under.refl _)) _))
         ⟨w4.heap.size,0,none⟩ 1 1 [.int .i64 xk,.int .i64 xn,.int .i64 xm,.string xs] (by rfl) (by rfl) (World.news_of_block (cs:=#[.int .i64 xk,.int .i64 xn,.int .i64 xm,.string xs]) (t:=76) (fr:=(0,0)) (heap_alloc_new _ _)) (by simp[Value.oneCell'])
         (by omega) hmx hby (by simp;omega) (w4.heap.size+1) (by simp) ?_
   intro gg cc w5 hown5 hgrow5 hat5 hlt5;have HPd:=Lib.hid (kW (x:=⟨xk,xn,xm,xs⟩) HRy.out (by first | exact bA (aA (Under.refl _) _) | exact aA (bA (Under.refl _)) _) hgrow5 (by rcases hat5 with h | h;exact .inl h;exact .inr (by rw[h];simp)) hown5);have HN5:=Lib.hid (jVA (x:=⟨xk,xn,xm,xs⟩) HRy.out (HNy.out) HNv.out (by first | exact bA (aA (Under.refl _) _) | exact aA (bA (Under.refl _)) _) hgrow5);have HB5:=Lib.hid ((HRy.out.box.under (by first | exact bA (aA (Under.refl _) _) | exact aA (bA (Under.refl _)) _)).grown hgrow5 (fun e=>HRy.out.ov_rb e.symm));have y5:=HB5.out.lt;have y6:=HB5.out.free 4;have y7:=HB5.out.cell 4;have HN6:=Lib.hid (HN5.out.other (g:=rb) (fun e=>HNr.out e.symm) 4 (.slice (some ⟨gg,0,none⟩) (acc.length+1) cc));clear hown5 hgrow5 hat5 hlt5;refine hK.out _ _ (wG (x:=⟨xk,xn,xm,xs⟩) HN5.out) (fun _=>?_);clear hK K hHeld;rename_i hHeld
   try walk_nrm
   co_applyP aB 8 rfl (by kernel_rfl) (by kernel_rfl) (fun _ _ _ h=>h) hHeld (fun w hSw=>?_) ?_;rotate_left
   · (try dsimp only at hSw);go_simp;try with_reducible rfl
   try walk_nrm
   co_applyP aB 9 rfl (by kernel_rfl) (by kernel_rfl) (fun _ _ _ h=>h) hHeld (fun w hSw=>?_) ?_;rotate_left
   · (try dsimp only at hSw);go_simp;try with_reducible rfl
   try walk_nrm
   refine kD 10 (by kernel_rfl) rfl fun K hK=>?_
   go_simp;refine hK.out _ _ (wG (x:=⟨xk,xn,xm,xs⟩) HN6.out) (fun _=>?_);clear hK K hHeld;rename_i hHeld
   try walk_nrm
   refine wpAnyH_done (by kernel_rfl) ?_ _;refine NoPanic.normal ?_;clear hHeld y5 y6 y7;exact⟨rfl,⟨_,zC (F:=kL rb nb) (by rfl)⟩,_,HPd.out.1,HPd.out.2.1,HPd.out.2.2⟩
 · go_simp; refine hK.out _ _ ?_ (fun _ => ?_)
   · exact wG (x:=⟨xk,xn,xm,xs⟩) ((HNy.out).under (by first | exact bA (Under.refl _) | exact bA (aA (Under.refl _) _) | exact aA (bA (Under.refl _)) _))
   clear hK K hHeld;rename_i hHeld
   try walk_nrm
   refine kD 4 (by kernel_rfl) rfl fun K hK=>?_
   go_simp;refine hK.out _ _ hHeld (fun _=>?_);clear hK K hHeld;rename_i hHeld
   try walk_nrm
   refine kD 7 (by kernel_rfl) rfl fun K hK=>?_
   refine step_append_lies _ (by rfl) _ _ _ (by rfl) W0.heap.size 76 i0 _ 4 40 Tryz.underlying30 hi hz0 hz1 hz2 rfl (by omega) ov acc.length (zB acc) (by rfl) (uA HRy.out.row (by first | exact bA (aA (Under.refl _) _) | exact aA (bA (Under.refl _)) _))
         ⟨w4.heap.size,0,none⟩ 1 1 [.int .i64 xk,.int .i64 xn,.int .i64 xm,.string xs] (by rfl) (by rfl) (World.news_of_block (cs:=#[.int .i64 xk,.int .i64 xn,.int .i64 xm,.string xs]) (t:=76) (fr:=(0,0)) (heap_alloc_new _ _)) (by simp[Value.oneCell'])
         (by omega) hmx hby (by simp;omega) (w4.heap.size+1) (by simp) ?_
   intro gg cc w5 hown5 hgrow5 hat5 hlt5;have HPd:=Lib.hid (kW (x:=⟨xk,xn,xm,xs⟩) HRy.out (by first | exact bA (aA (Under.refl _) _) | exact aA (bA (Under.refl _)) _) hgrow5 (by rcases hat5 with h | h;exact .inl h;exact .inr (by rw[h];simp)) hown5);have HN5:=Lib.hid (jVA (x:=⟨xk,xn,xm,xs⟩) HRy.out (HNy.out) HNv.out (by first | exact bA (aA (Under.refl _) _) | exact aA (bA (Under.refl _)) _) hgrow5);have HB5:=Lib.hid ((HRy.out.box.under (by first | exact bA (aA (Under.refl _) _) | exact aA (bA (Under.refl _)) _)).grown hgrow5 (fun e=>HRy.out.ov_rb e.symm));have y5:=HB5.out.lt;have y6:=HB5.out.free 4;have y7:=HB5.out.cell 4;have HN6:=Lib.hid (HN5.out.other (g:=rb) (fun e=>HNr.out e.symm) 4 (.slice (some ⟨gg,0,none⟩) (acc.length+1) cc));clear hown5 hgrow5 hat5 hlt5;refine hK.out _ _ (wG (x:=⟨xk,xn,xm,xs⟩) HN5.out) (fun _=>?_);clear hK K hHeld;rename_i hHeld
   try walk_nrm
   co_applyP aB 8 rfl (by kernel_rfl) (by kernel_rfl) (fun _ _ _ h=>h) hHeld (fun w hSw=>?_) ?_;rotate_left
   · (try dsimp only at hSw);go_simp;try with_reducible rfl
   try walk_nrm
   co_applyP aB 9 rfl (by kernel_rfl) (by kernel_rfl) (fun _ _ _ h=>h) hHeld (fun w hSw=>?_) ?_;rotate_left
   · (try dsimp only at hSw);go_simp;try with_reducible rfl
   try walk_nrm
   refine kD 10 (by kernel_rfl) rfl fun K hK=>?_
   go_simp;refine hK.out _ _ (wG (x:=⟨xk,xn,xm,xs⟩) HN6.out) (fun _=>?_);clear hK K hHeld;rename_i hHeld
   try walk_nrm
   refine wpAnyH_done (by kernel_rfl) ?_ _;refine NoPanic.normal ?_;clear hHeld y5 y6 y7;exact⟨rfl,⟨_,zC (F:=kL rb nb) (by rfl)⟩,_,HPd.out.1,HPd.out.2.1,HPd.out.2.2⟩
def uAB(rb sb nb:Nat)(bv:Value)(fi:Bool)(J:Nat→Value):Array Value:=#[.pointer (some ⟨rb,0,none⟩),J 1,bv,J 3,.pointer (some ⟨sb,0,none⟩),J 5,.bool false,.pointer (some ⟨nb,0,none⟩),.bool fi,J 9,J 10,J 11,J 12,J 13,J 14,J 15,J 16,J 17,J 18,J 19,J 20,J 21,J 22,J 23,J 24,J 25,J 26,J 27,J 28,J 29,J 30,J 31,J 32,J 33,J 34,J 35,J 36,J 37,J 38,J 39,J 40,J 41,J 42,J 43,J 44,J 45,J 46,J 47,J 48,J 49,J 50,J 51,J 52,J 53,J 54,J 55,J 56,J 57,J 58,J 59,J 60,J 61,J 62,J 63,J 64,J 65,J 66,J 67,J 68,J 69,J 70,J 71,J 72,J 73,J 74,J 75,J 76,J 77,J 78]
def sDB(w:World)(rb sb nb:Nat)(bv:Value)(fi:Bool)(x n:Array Value)(e:Exit)(a':Act)(w':World):Prop:=e = .normal∧(∃ J,a'=⟨uAB rb sb nb bv fi J,[]⟩)∧Under w w'∧BoxAt w' nb 76 n∧BoxAt w' sb 29 x
theorem j6A(s:ByteArray):∃(k:Int) (fi:Bool),(((zN s).map fun k=>gP k 0).getD (gP 0 0) = .agg #[.int .i64 k,.int .i64 0,.int .i64 0,.string ⟨#[]⟩]∧(zN s).isSome=fi)∧((zN s=none∧fi=false∧k=0)∨(zN s=some k∧fi=true)):=by
 cases h:zN s with
 | none=>exact⟨0,false,⟨rfl,rfl⟩,.inl ⟨rfl,rfl,rfl⟩⟩
 | some k=>exact⟨k,true,⟨rfl,rfl⟩,.inr ⟨rfl,rfl⟩⟩
section
variable {W0 w : World} {rb m1 m2 : Nat} {cv dv ov : Value} {acc : List Nd} {p e : Int}
theorem d0A(x:Sx)(cs:List ByteArray)(st:List ByteArray){bv:Value}(hw:x.word.size≤1000000)(h:ReS W0 rb m1 m2 cv dv ov acc p e w)(hb:TextsV w bv st)(hn:st.length≤100000)(ha:acc.length≤1000000)(hcs:TextsV W0 cv cs)(hcn:cs.length≤1000000) :
 Calls Tryz.prog 55 #[.pointer (some ⟨rb,0,none⟩),sxV x,bv] w (ReOut W0 rb m1 m2 cv dv ov acc w (lK cs x.pos x.word st)):=by
 obtain⟨mm,pp,s⟩:=x;simp only at *;obtain⟨k,fi,⟨hv,hfi⟩,hlf⟩:=j6A s;have HLf:=Lib.hid hlf;have hU0:=aA (Under.refl w) (.cells #[.int .i64 mm,.int .i64 pp,.string s] 29);have hR:=h.under hU0;have d1:=hR.box.cell 3;have d2:(w.alloc (.cells #[.int .i64 mm,.int .i64 pp,.string s] 29)).cell? ⟨w.heap.size,2,none⟩=some (.string s):=(yA w _ _).cell 2;have d3:=hR.a;have HLk:∀(w':World),MapAt w' m2 aloneL→(Instr.lookup 61 (.map (some m2)) (.string s) true).run Tryz.prog w' = .ok (.tuple #[.agg #[.int .i64 k,.int .i64 0,.int .i64 0,.string ⟨#[]⟩],.bool fi]) w':=fun w' h=>by
  rw[wSA h s,hv,hfi]
 have HD:=Lib.hid (show rb < (w.alloc (.cells #[.int .i64 mm,.int .i64 pp,.string s] 29)).heap.size∧w.heap.size < (w.alloc (.cells #[.int .i64 mm,.int .i64 pp,.string s] 29)).heap.size∧_ from⟨hR.box.lt,by simp,And.intro d1 (And.intro d2 d3)⟩);have dd:=And.intro d1 (And.intro d2 d3);have HB:=Lib.hid hb;have HR:=Lib.hid h;have HU0:=Lib.hid hU0;have HCs:=Lib.hid hcs;clear d1 d2 d3 hR hb hU0 hlf hv hfi hcs;unfold sxV;simp only;clear h;go_enter Tryz.func55,Tryz.ntmps55;go_wp2_with fail;rename_i K hK;refine wp_mono (Q:=sDB w rb w.heap.size (w.heap.size+1) bv fi #[.int .i64 mm,.int .i64 pp,.string s] (wCA ⟨k,0,0,⟨#[]⟩⟩)) ?_ ?_
 · refine wp_region_noPanic ?_; go_region_held3 (fun w' => w'.cell? ⟨rb, 3, none⟩ = some (.map (some m2)) ∧ w'.cell? ⟨w.heap.size, 2, none⟩ = some (.string s) ∧ MapAt w' m2 aloneL)
     (first
       | exact dd
       | exact aFA (bA (aA (Under.refl _) _)) HD.out
       | go_keep)
     (fail)
   all_goals
    refine NoPanic.normal ?_;refine⟨rfl,⟨_,zC (F:=uAB rb w.heap.size (w.heap.size+1) bv fi) (by rfl)⟩,bA (aA HU0.out _),?_,(yA w _ _).alloc _⟩;have:=yA (w.alloc (.cells #[.int .i64 mm,.int .i64 pp,.string s] 29)) #[.int .i64 k,.int .i64 0,.int .i64 0,.string ⟨#[]⟩] 76;rw[World.size_alloc]at this;exact this
 rintro ex a' wx ⟨rfl,⟨J,rfl⟩,hUx,hNb,hSx⟩;have HUx:=Lib.hid hUx;have HNb:=Lib.hid hNb;have HSx:=Lib.hid hSx;simp only[Exit.then];refine hK _ _ ?_;unfold uAB;clear hUx hNb hSx hK K dd HLk HD HU0;have HC:=Lib.hid (dRA (HB.out.under HUx.out) (by omega));go_wp2_with fail;refine HC.out.mono ?_;rintro e w2 ⟨u,rfl,hu,hU2⟩;have HRv:=Lib.hid (sLA (W:=wx) hu (by omega) (Nat.le_refl _) hU2);clear hu hU2 HC;go_wp2_with fail;refine HRv.out.mono ?_;rintro e w3 ⟨rfl,hu3,hU3⟩;have HT3:=TextsV.of_own (ss:=st.reverse) (by rw[List.length_reverse];exact hu3);have HI:=Lib.hid (pTA s HT3 (by rw[List.length_reverse];omega));obtain⟨q3,c3,rfl,_,_,_⟩:=HT3;rw[List.length_reverse]at HI ⊢;generalize st.length=stn at *;have HIx:=Lib.hid (vMA st s);generalize Lib.idxOfS st.reverse s=ix at *;have HUz:=Lib.hid (HUx.out.trans hU3);have HUy:=Lib.hid hU3;have hNy:=HNb.out.under hU3;have hSy:=HSx.out.under hU3;have s0:=hSy.cell 0;have s1:=hSy.cell 1;have s2:=hSy.cell 2;have sl:=hSy.lt;have HSy:=Lib.hid hSy;have HNy:=Lib.hid hNy;clear hSy hNy;clear hu3 hU3 HRv;go_wp2_with fail;refine HI.out.mono ?_;rintro e w4 ⟨rfl,rfl⟩;clear HI;rcases HLf.out with⟨hl,rfl,rfl⟩ | ⟨hl,rfl⟩
 rotate_left
 · have HW := Lib.hid (show lK cs pp s st = .ok [⟨k, 0, 0, ⟨#[]⟩⟩] by unfold lK; rw [hl]); clear hl; have HRy := Lib.hid (HR.out.under HUz.out); have HNv : RowKit.Hid (ov.ownBlock ≠ some (w.heap.size + 1)) := Lib.hid fun e => by have := (iC HR.out.row e).2; omega
   have HNr:RowKit.Hid (rb≠w.heap.size+1):=Lib.hid fun e=>by have:=HR.out.box.lt;omega
   go_wp2_with fail;rename_i K hK;refine nRA (F:=kL rb (w.heap.size+1)) (by rfl) fun J=>?_
   refine wp_mono (mLA (x:=⟨k,0,0,⟨#[]⟩⟩) HRy.out (HNy.out) HNv.out HNr.out ha J) ?_;rintro ex a' w9 ⟨rfl,⟨J',rfl⟩,ov',g1,g2,g3⟩;have HPd:=Lib.hid (And.intro g1 (And.intro g2 g3));clear g1 g2 g3;simp only[Exit.then];refine hK _ _ ?_;unfold kL;go_wp2;go_ret;rw[HW.out];exact⟨_,_,_,_,HPd.out.1,(Ch.of_under HUz.out).trans (C:=dH rb ov) (D:=dH rb ov) HPd.out.2.1 (fun i _ h=>h),fun b hb e=>HPd.out.2.2 b (by have:=HUz.out.size;omega) e,rfl,rfl⟩
 have HNm:=Lib.hid (jK (w0:=w4) ⟨mm,pp,s⟩ (rb:=rb) (m1:=m1) (m2:=m2) (by simp only[maxLen];omega) (HR.out.under HUz.out).tables);simp only[sxV]at HNm;have HL:=Lib.hid hl;clear hl HLf
 cases hk:nameK s
 all_goals
  rw[hk]at HNm;go_wp2_with fail;refine HNm.out.mono ?_;rintro e w5 ⟨rfl,hU5⟩;have HUw:=Lib.hid (HUz.out.trans hU5);have s1':=(HSy.out.under hU5).cell 1;have s2':=(HSy.out.under hU5).cell 2;have sl':=(HSy.out.under hU5).lt;have HNz:=Lib.hid (HNy.out.under hU5);have hUs:=(bA (W:=w4) (w:=w5) (hU5));clear hU5 s0 s1 s2 sl HNm
 · have HW:=Lib.hid (show lK cs pp s st = .error (71,pp) by simp[lK,HL.out,hk]);have HWr:=Lib.hid (iG (HR.out.under HUw.out) pp 71);go_wp2_with fail;refine HWr.out.mono ?_;rintro e w6 hO;have HO:=Lib.hid (ReOut.back HUw.out hO);obtain⟨_,_,_,_,_,_,_,rfl,_,_⟩:=hO;go_wp2;go_ret;rw[HW.out];exact HO.out
 cases hf:jQ st s with
 | some ii =>
   obtain rfl:ix=(ii:Int):=by have:=HIx.out;rw[hf]at this;exact this
   by_cases h9:99 < ii
   · have HW := Lib.hid (show lK cs pp s st = .error (2, pp) by simp [lK, HL.out, hk, hf, h9]); have hi9 : (99 : Int) < (ii : Int) := by omega
     have HWr:=Lib.hid (iG (HR.out.under HUw.out) pp 2);go_wp2_with fail;refine HWr.out.mono ?_;rintro e w6 hO;have HO:=Lib.hid (ReOut.back HUw.out hO);obtain⟨_,_,_,_,_,_,_,rfl,_,_⟩:=hO;go_wp2;go_ret;rw[HW.out];exact HO.out
   · have HW := Lib.hid (show lK cs pp s st = .ok [⟨0, (ii : Int), 0, ⟨#[]⟩⟩] by simp only [lK, HL.out, hk, hf, if_true, if_neg h9]); have hi9 : (ii : Int) ≤ 99 := by omega
     have hi0:(0:Int)≤(ii:Int):=by omega
     have n0:w5.cell? ⟨w.heap.size+1,0,none⟩=some (.int .i64 0):=HNz.out.cell 0;have n1:w5.cell? ⟨w.heap.size+1,1,none⟩=some (.int .i64 0):=HNz.out.cell 1;have n2:w5.cell? ⟨w.heap.size+1,2,none⟩=some (.int .i64 0):=HNz.out.cell 2;have n3:w5.cell? ⟨w.heap.size+1,3,none⟩=some (.string ⟨#[]⟩):=HNz.out.cell 3;have nl:=HNz.out.lt;have nf0:=HNz.out.free 0;have nf1:=HNz.out.free 1;have nf2:=HNz.out.free 2;have nf3:=HNz.out.free 3;go_wp2_with fail;obtain⟨w6,hw6⟩:∃ w6,w6=(((w5.setCell ⟨w.heap.size+1,0,none⟩ (.int .i64 (0))).setCell ⟨w.heap.size+1,1,none⟩ (.int .i64 ((ii:Int)))).setCell ⟨w.heap.size+1,2,none⟩ (.int .i64 (0))).setCell ⟨w.heap.size+1,3,none⟩ (.string ⟨#[]⟩):=⟨_,rfl⟩;have HNq:RowKit.Hid (BoxAt w6 (w.heap.size+1) 76 (wCA ⟨0,(ii:Int),0,⟨#[]⟩⟩)):=Lib.hid (by rw[hw6];exact(((HNz.out.set 0 _).set 1 _).set 2 _).set 3 _);have HUz:=Lib.hid (show Under w w6 by rw[hw6];exact xD (xD (xD (xD HUw.out (by omega) _ _) (by omega) _ _) (by omega) _ _) (by omega) _ _);rw[← hw6];clear hw6 n0 n1 n2 n3 nl nf0 nf1 nf2 nf3 HNz s1' s2' sl';have HRy:=Lib.hid (HR.out.under HUz.out);have HNv:RowKit.Hid (ov.ownBlock≠some (w.heap.size+1)):=Lib.hid fun e=>by have:=(iC HR.out.row e).2;omega
     have HNr:RowKit.Hid (rb≠w.heap.size+1):=Lib.hid fun e=>by have:=HR.out.box.lt;omega
     go_wp2_with fail;rename_i K hK;refine nRA (F:=kL rb (w.heap.size+1)) (by rfl) fun J=>?_
     refine wp_mono (mLA (x:=⟨0,(ii:Int),0,⟨#[]⟩⟩) HRy.out (HNq.out) HNv.out HNr.out ha J) ?_;rintro ex a' w9 ⟨rfl,⟨J',rfl⟩,ov',g1,g2,g3⟩;have HPd:=Lib.hid (And.intro g1 (And.intro g2 g3));clear g1 g2 g3;simp only[Exit.then];refine hK _ _ ?_;unfold kL;go_wp2;go_ret;rw[HW.out];exact⟨_,_,_,_,HPd.out.1,(Ch.of_under HUz.out).trans (C:=dH rb ov) (D:=dH rb ov) HPd.out.2.1 (fun i _ h=>h),fun b hb e=>HPd.out.2.2 b (by have:=HUz.out.size;omega) e,rfl,rfl⟩
 | none =>
   have HF:=Lib.hid hf
   cases hc:rD cs s
   all_goals
    obtain rfl:ix=(-1:Int):=by have:=HIx.out;rw[hf]at this;exact this
    have c0 := (HR.out.under HUw.out).box.cell 0; have cl := (HR.out.under HUw.out).box.lt; have HCt := Lib.hid (fun w' (hU : Under w5 w') => qQ s (HCs.out.under ((HR.out.und.trans HUw.out).trans hU)) hcn); rw [hc] at HCt; have ccd := And.intro c0 s2'; go_wp2_with fail; go_region_held3 (fun w' => w'.cell? ⟨rb, 0, none⟩ = some cv ∧ w'.cell? ⟨w.heap.size, 2, none⟩ = some (.string s))
      (first
        | exact ccd
        | go_keep)
      ((go_at_call 61;refine(HCt.out _ (by first | exact bA (Under.refl _) | exact Under.refl _)).mono ?_;rintro e w7 ⟨rfl,rfl⟩))
    rename_i K hK hHeld;clear hHeld ccd c0 cl;have HUw:=Lib.hid (HUw.out.trans (bA (Under.refl _)));have HSz:=Lib.hid (HSy.out.under (hUs));have HNz:=Lib.hid (HNz.out.under (bA (Under.refl _)));have s1':=HSz.out.cell 1;have s2':=HSz.out.cell 2;have sl':=HSz.out.lt;generalize w5.drew=w5 at *
   · have HW:=Lib.hid (show lK cs pp s st = .error (80,pp) by simp[lK,HL.out,hk,HF.out,hc]);have HWr:=Lib.hid (iG (HR.out.under HUw.out) pp 80);go_wp2_with fail;refine HWr.out.mono ?_;rintro e w6 hO;have HO:=Lib.hid (ReOut.back HUw.out hO);obtain⟨_,_,_,_,_,_,_,rfl,_,_⟩:=hO;go_wp2;go_ret;rw[HW.out];exact HO.out
   · have HW := Lib.hid (show lK cs pp s st = .ok [⟨1, 0, 0, s⟩] by simp [lK, HL.out, hk, HF.out, hc]); have n0 : w5.cell? ⟨w.heap.size + 1, 0, none⟩ = some (.int .i64 0) := HNz.out.cell 0; have n1 : w5.cell? ⟨w.heap.size + 1, 1, none⟩ = some (.int .i64 0) := HNz.out.cell 1; have n2 : w5.cell? ⟨w.heap.size + 1, 2, none⟩ = some (.int .i64 0) := HNz.out.cell 2; have n3 : w5.cell? ⟨w.heap.size + 1, 3, none⟩ = some (.string ⟨#[]⟩) := HNz.out.cell 3; have nl := HNz.out.lt; have nf0 := HNz.out.free 0; have nf1 := HNz.out.free 1; have nf2 := HNz.out.free 2; have nf3 := HNz.out.free 3; go_wp2_with fail; obtain ⟨w6, hw6⟩ : ∃ w6, w6 = (((w5.setCell ⟨w.heap.size + 1, 0, none⟩ (.int .i64 (1))).setCell ⟨w.heap.size + 1, 1, none⟩ (.int .i64 (0))).setCell ⟨w.heap.size + 1, 2, none⟩ (.int .i64 (0))).setCell ⟨w.heap.size + 1, 3, none⟩ (.string s) := ⟨_, rfl⟩; have HNq : RowKit.Hid (BoxAt w6 (w.heap.size + 1) 76 (wCA ⟨1, 0, 0, s⟩)) := Lib.hid (by rw [hw6]; exact (((HNz.out.set 0 _).set 1 _).set 2 _).set 3 _); have HUz := Lib.hid (show Under w w6 by rw [hw6]; exact xD (xD (xD (xD HUw.out (by omega) _ _) (by omega) _ _) (by omega) _ _) (by omega) _ _); rw [← hw6]; clear hw6 n0 n1 n2 n3 nl nf0 nf1 nf2 nf3 HNz s1' s2' sl'; have HRy := Lib.hid (HR.out.under HUz.out); have HNv : RowKit.Hid (ov.ownBlock ≠ some (w.heap.size + 1)) := Lib.hid fun e => by have := (iC HR.out.row e).2; omega
     have HNr:RowKit.Hid (rb≠w.heap.size+1):=Lib.hid fun e=>by have:=HR.out.box.lt;omega
     go_wp2_with fail;rename_i K hK;refine nRA (F:=kL rb (w.heap.size+1)) (by rfl) fun J=>?_
     refine wp_mono (mLA (x:=⟨1,0,0,s⟩) HRy.out (HNq.out) HNv.out HNr.out ha J) ?_;rintro ex a' w9 ⟨rfl,⟨J',rfl⟩,ov',g1,g2,g3⟩;have HPd:=Lib.hid (And.intro g1 (And.intro g2 g3));clear g1 g2 g3;simp only[Exit.then];refine hK _ _ ?_;unfold kL;go_wp2;go_ret;rw[HW.out];exact⟨_,_,_,_,HPd.out.1,(Ch.of_under HUz.out).trans (C:=dH rb ov) (D:=dH rb ov) HPd.out.2.1 (fun i _ h=>h),fun b hb e=>HPd.out.2.2 b (by have:=HUz.out.size;omega) e,rfl,rfl⟩
end
def iN(L n:Nat)(c:UInt8):List UInt8:=if c=42 then List.replicate (n+1 - L) c else [c]
theorem pSA(l:List UInt8)(n:Nat):yB l n=l.flatMap (iN l.length n):=rfl
theorem zKA(l:List UInt8)(L n k:Nat)(c:UInt8)(hk:l[k]? = some c):(l.take (k+1)).flatMap (iN L n)=(l.take k).flatMap (iN L n)++iN L n c:=by
 obtain⟨h1,h2⟩:=List.getElem?_eq_some_iff.1 hk;rw[List.take_succ_eq_append_getElem h1,List.flatMap_append,h2];simp
theorem qYA(L n:Nat)(c:UInt8):(iN L n c).length≤n+1:=by
 unfold iN
 split
 · rw[List.length_replicate];omega
 · simp
theorem pQ (L n : Nat) : ∀ l : List UInt8, (l.flatMap (iN L n)).length ≤ l.length * (n + 1)
  | []=>by simp
  | c :: l => by
    rw[List.flatMap_cons,List.length_append,List.length_cons];have h1:=qYA L n c;have h2:=pQ L n l;rw[Nat.add_mul];omega
def zM(l:List UInt8):List Value:=l.map fun c=>.int .u8 (c.toNat:Int)
theorem rCA(a b:List UInt8):zM (a++b)=zM a++zM b:=List.map_append
theorem Tryz.infoU8:(Tryz.prog.info? 5).map (fun i=>(i.zero,i.size,i.bytes))=some (some (.int .u8 0),1,1):=by kernel_rfl
theorem uYA{w:World}{base n:Nat}{e:TypeId}{g c:Nat}{l:List UInt8}(h:w.ownsRow base e 1 (.slice (some ⟨g,0,none⟩) n c) n (zM l)):Lib.Bytes w g 0 ⟨l.toArray⟩:=by
 intro i hi;have hi':i < l.length:=by simpa [ByteArray.size] using hi
 have:(zM l)[i]? = some (.int .u8 (l[i].toNat:Int)):=by unfold zM;rw[List.getElem?_map,List.getElem?_eq_getElem hi'];rfl
 rw[Nat.zero_add,lC h rfl this];rfl
def bDB(w0:World)(s:ByteArray)(n:Nat)(v i:Value)(wr:World):Prop :=
 ∃ k N:Nat,k≤s.size∧i = .int .i64 (k:Int)∧N=((s.data.toList.take k).flatMap (iN s.size n)).length∧wr.ownsRow w0.heap.size 5 1 v N (zM ((s.data.toList.take k).flatMap (iN s.size n)))∧Under w0 wr
def aCB(w0:World)(pre:List UInt8)(c:UInt8)(m:Int)(v i:Value)(wr:World):Prop :=
 ∃ j N:Nat,((j:Int)≤m∨j=0)∧i = .int .i64 (j:Int)∧N=(pre++List.replicate j c).length∧wr.ownsRow w0.heap.size 5 1 v N (zM (pre++List.replicate j c))∧Under w0 wr
section
variable {w0 : World}
theorem gJA(k0 n0 m0:Int)(x0 s:ByteArray)(n:Nat)(hs:s.size≤20)(hn:n≤100000) :
 Calls Tryz.prog 58 #[.agg #[.int .i64 k0,.int .i64 n0,.int .i64 m0,.string x0,.string s],.int .i64 (n:Int)] w0 fun e w=>e = .returned (.tuple #[.string ⟨(yB s.data.toList n).toArray⟩,.bool (decide ((yB s.data.toList n).length=n))])∧Under w0 w:=by
 obtain⟨i0,hi,hz0,hz1,hz2⟩:=info_parts Tryz.infoU8;have hsl:s.data.toList.length=s.size:=by rw[Array.length_toList];rfl
 have hB:=yA w0 #[.int .i64 k0,.int .i64 n0,.int .i64 m0,.string x0,.string s] 114;have hU0:=aA (Under.refl w0) (.cells #[.int .i64 k0,.int .i64 n0,.int .i64 m0,.string x0,.string s] 114);have hsz0:(w0.alloc (.cells #[.int .i64 k0,.int .i64 n0,.int .i64 m0,.string x0,.string s] 114)).heap.size=w0.heap.size+1:=by simp
 have HSp:RowKit.Hid (yB s.data.toList n=(s.data.toList.take s.size).flatMap (iN s.size n)):=Lib.hid (by rw[pSA,← hsl,List.take_length]);generalize yB s.data.toList n=R at *;obtain⟨b0,hb0⟩:∃ b,b=w0.heap.size:=⟨_,rfl⟩;have HU0:=Lib.hid hU0;have HB:=Lib.hid hB;have HS0:=Lib.hid hsz0;have hn0:(0:Int)≤(n:Int):=by omega
 have hn9:(n:Int)≤100000:=by omega
 have hs9:(s.size:Int)≤20:=by omega
 have hs0:(0:Int)≤(s.size:Int):=by omega
 clear hU0 hB hsz0 hb0 b0;go_enter Tryz.func58,Tryz.ntmps58;go_wp2;obtain⟨W1,hW1⟩:∃ W,W=w0.alloc (.cells #[.int .i64 k0,.int .i64 n0,.int .i64 m0,.string x0,.string s] 114):=⟨_,rfl⟩;rw[← hW1]at HU0 HB HS0;rw[← hW1];clear hW1;go_loopw [6,12] (fun v i wr=>bDB W1 s n v i wr) (fun _ i _=>s.size - (intOf i).toNat)
 case atStart=>exact⟨0,0,Nat.zero_le _,rfl,rfl,World.ownsRow_nil _ _ _ _,Under.refl _⟩
 case round =>
   obtain⟨k,N,hk,rfl,hN,hown,hU⟩:=hrel;have hBw:=HB.out.under hU;have b4:=hBw.cell 4;have blt:=hBw.lt;have HUr:=Lib.hid hU;have HO:=Lib.hid hown;have HN:=Lib.hid hN;clear hU hown hN;by_cases hlt:k < s.size
   · have hk' : s.data.toList[k]? = some s[k] := by rw [List.getElem?_eq_getElem (by omega)]; rfl
     have HT:=Lib.hid (zKA s.data.toList s.size n k s[k] hk');have hNl:N≤20 * 100001:=by
      rw[HN.out];refine Nat.le_trans (pQ s.size n _) ?_;refine Nat.mul_le_mul ?_ (by omega);rw[List.length_take];omega
     obtain⟨pre,hpre⟩:∃ pre,pre=(s.data.toList.take k).flatMap (iN s.size n):=⟨_,rfl⟩;rw[← hpre]at HT HO HN;clear hk' hpre
     cases hc:(((s[k]).toNat:Int)==42)
     · have HMy : RowKit.Hid (iN s.size n s[k] = List.replicate 1 s[k]) := Lib.hid (by
         have:s[k]≠42:=fun e=>by rw[e]at hc;exact absurd hc (by decide)
         unfold iN;rw[if_neg this];rfl)
       go_wp2;go_loopw [6,27] (fun v i wr=>aCB W1 pre s[k] 1 v i wr) (fun _ i _=>(1:Int).toNat - (intOf i).toNat)
       case atStart=>exact⟨0,N,.inr rfl,rfl,by rw[HN.out];simp,by simpa using HO.out,HUr.out⟩
       case round =>
         obtain⟨j,N2,hj,rfl,hN2,hown2,hU2⟩:=hrel;have hBw2:=HB.out.under hU2;have b4:=hBw2.cell 4;have blt:=hBw2.lt;have HU2:=Lib.hid hU2;have HO2:=Lib.hid hown2;have HN2:=Lib.hid hN2;clear hU2 hown2 hN2 hBw2;by_cases hjm:(j:Int) < (1:Int)
         · have hN2l : N2 ≤ 2200120 := by rw [HN2.out, List.length_append, ← HN.out, List.length_replicate]; omega
           have hmx:N2+1≤maxLen:=by simp only[maxLen];omega
           have hby:(N2+1) * 1≤140737488355328:=by omega
           go_wp2_with (at_builtin;refine wpList_append_own_at _ rfl _ _ 161 rfl W1.heap.size 5 i0 _ 1 1 Tryz.underlying161 hi hz0 hz1 hz2 rfl (by decide) _ _ _ rfl (HO2.out.alloc _) ⟨wr.heap.size,0,none⟩ 1 1 [.int .u8 (s[k].toNat:Int)] rfl rfl ?c1 ?c2 hmx hby ?c5 ?_)
           case c1 =>
             intro j u hj
             match j,hj with
             | 0,hj=>cases hj;simp[Addr.add]
           case c2=>intro u hu;simp at hu;subst hu;rfl
           case c5=>have:=HU2.out.size;simp;omega
           intro v' w' hown hgrow hnil hat;have HW:=Lib.hid hown;have HU3:=Lib.hid (eB (aA HU2.out _) hgrow fun g e=>(iC HO2.out e).1);clear hown hgrow hnil hat;go_wp2;go_roundw
           case rel =>
             refine⟨j+1,N2+1,by omega,by go_num,?_,?_,HU3.out⟩
             · rw[HN2.out,List.replicate_succ'];simp[Nat.add_assoc]
             · have := HW.out; rw [List.replicate_succ', ← List.append_assoc, rCA]
               simpa [zM] using this
           case measure=>simp[intOf];omega
         · go_wp2; go_roundw
           case rel =>
             have hj':iN s.size n s[k]=List.replicate j s[k]:=by
              rw[HMy.out];congr 1
              omega
             refine⟨k+1,N2,by omega,by go_num,?_,?_,HU2.out⟩
             · rw[HT.out,hj',HN2.out]
             · rw[HT.out,hj'];exact HO2.out
           case measure=>simp[intOf];omega
     · have HMy : RowKit.Hid (iN s.size n s[k] = List.replicate (n + 1 - s.size) s[k]) := Lib.hid (by
         have:s[k]=42:=by
          have h2:(s[k]).toNat=42:=by have:=beq_iff_eq.1 hc;omega
          exact UInt8.toNat_inj.1 h2
         unfold iN;rw[if_pos this])
       go_wp2;go_loopw [6,27] (fun v i wr=>aCB W1 pre s[k] ((n:Int) - (s.size:Int)+1) v i wr) (fun _ i _=>(((n:Int) - (s.size:Int)+1):Int).toNat - (intOf i).toNat)
       case atStart=>exact⟨0,N,.inr rfl,rfl,by rw[HN.out];simp,by simpa using HO.out,HUr.out⟩
       case round =>
         obtain⟨j,N2,hj,rfl,hN2,hown2,hU2⟩:=hrel;have hBw2:=HB.out.under hU2;have b4:=hBw2.cell 4;have blt:=hBw2.lt;have HU2:=Lib.hid hU2;have HO2:=Lib.hid hown2;have HN2:=Lib.hid hN2;clear hU2 hown2 hN2 hBw2;by_cases hjm:(j:Int) < (((n:Int) - (s.size:Int)+1):Int)
         · have hN2l : N2 ≤ 2200120 := by rw [HN2.out, List.length_append, ← HN.out, List.length_replicate]; omega
           have hmx:N2+1≤maxLen:=by simp only[maxLen];omega
           have hby:(N2+1) * 1≤140737488355328:=by omega
           go_wp2_with (at_builtin;refine wpList_append_own_at _ rfl _ _ 161 rfl W1.heap.size 5 i0 _ 1 1 Tryz.underlying161 hi hz0 hz1 hz2 rfl (by decide) _ _ _ rfl (HO2.out.alloc _) ⟨wr.heap.size,0,none⟩ 1 1 [.int .u8 (s[k].toNat:Int)] rfl rfl ?c1 ?c2 hmx hby ?c5 ?_)
           case c1 =>
             intro j u hj
             match j,hj with
             | 0,hj=>cases hj;simp[Addr.add]
           case c2=>intro u hu;simp at hu;subst hu;rfl
           case c5=>have:=HU2.out.size;simp;omega
           intro v' w' hown hgrow hnil hat;have HW:=Lib.hid hown;have HU3:=Lib.hid (eB (aA HU2.out _) hgrow fun g e=>(iC HO2.out e).1);clear hown hgrow hnil hat;go_wp2;go_roundw
           case rel =>
             refine⟨j+1,N2+1,by omega,by go_num,?_,?_,HU3.out⟩
             · rw[HN2.out,List.replicate_succ'];simp[Nat.add_assoc]
             · have := HW.out; rw [List.replicate_succ', ← List.append_assoc, rCA]
               simpa [zM] using this
           case measure=>simp[intOf];omega
         · go_wp2; go_roundw
           case rel =>
             have hj':iN s.size n s[k]=List.replicate j s[k]:=by
              rw[HMy.out];congr 1
              omega
             refine⟨k+1,N2,by omega,by go_num,?_,?_,HU2.out⟩
             · rw[HT.out,hj',HN2.out]
             · rw[HT.out,hj'];exact HO2.out
           case measure=>simp[intOf];omega
   · obtain rfl : k = s.size := by omega
     rw[← HSp.out]at HO HN;have hR:R.length=N:=HN.out.symm;have HRe:=Lib.hid (show(R.length=n)=((N:Int)=(n:Int)) by rw[hR];simp;omega);have hNl:N≤20 * 100001:=by
      rw[HN.out,HSp.out];refine Nat.le_trans (pQ s.size n _) ?_;refine Nat.mul_le_mul ?_ (by omega);rw[List.length_take];omega
     have hown:=HO.out;have hbs:∀ g c,u6 = .slice (some ⟨g,0,none⟩) N c→Lib.Bytes wr g 0 ⟨R.toArray⟩:=fun g c e=>by subst e;exact uYA hown
     rcases hown.2 with⟨rfl,h0⟩ | ⟨g,c,cur,rfl,_,hg,h1,h2,_⟩
     · have hR0:R=[]:=List.eq_nil_of_length_eq_zero (by omega);have HR0:=Lib.hid hR0;subst h0;clear hR hbs hown;have hcv:=Lib.run_convert_nil_bytes (P:=Tryz.prog) wr 161 9 5 0 Tryz.underlying161 Tryz.underlying5 Tryz.underlying9;go_wp2;go_ret2;exact⟨by rw[HR0.out];simp;rw[Bool.eq_iff_iff];simp;omega,HU0.out.trans HUr.out⟩
     · have hsz : (⟨R.toArray⟩ : ByteArray).size = N := by rw [← hR]; simp [ByteArray.size]
       have hcv:=Lib.run_convert_whole (P:=Tryz.prog) wr 161 5 9 Tryz.underlying161 Tryz.underlying5 Tryz.underlying9 g 0 ⟨R.toArray⟩ (hbs g c rfl) c;rw[hsz]at hcv;clear hR hbs hown hsz hg;go_wp2;go_ret2;exact⟨by simp[HRe.out];rw[Bool.eq_iff_iff];simp,HU0.out.trans HUr.out⟩
end
end Go.Proofs.YtlnlpdephijcoaaGreatDoor
