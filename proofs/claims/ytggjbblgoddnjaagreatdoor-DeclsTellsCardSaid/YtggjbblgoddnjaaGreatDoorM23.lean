/- Part 23 of what the proof rests on. -/
import Derived.Deep.RegionLaw
import Derived.Deep.RegionHeld3
import Derived.Deep.AppendLies
import Derived.Conc.CompanyMem
import Derived.Conc.WalkWords
import Derived.Lib.ItoaLen
import Derived.Lib.AtoiAllCases
import Derived.Test.YtggjbblgoddnjaaGreatDoorM01
import Derived.Test.YtggjbblgoddnjaaGreatDoorM12
import Derived.Test.YtggjbblgoddnjaaGreatDoorM15
import Derived.Test.YtggjbblgoddnjaaGreatDoorM22
set_option linter.unusedSimpArgs false
set_option linter.unusedVariables false
set_option maxRecDepth 100000
set_option maxHeartbeats 4000000
namespace Go.Proofs.YtggjbblgoddnjaaGreatDoor
open Go.Lx Go.RowKit
theorem Tryz.infoNode8:(Tryz.prog.info? 112).map (fun i=>(i.zero,i.size,i.bytes))=some (some (.agg #[.int .i64 0,.int .i64 0,.int .i64 0,.string ⟨#[]⟩]),4,40):=by kernel_rfl
theorem mMA{w:World}{m2:Nat}(h:MapAt w m2 aloneL)(s:ByteArray):(Instr.lookup 203 (.map (some m2)) (.string s) true).run Tryz.prog w = .ok (.tuple #[((yO s).map fun k=>qM k 0).getD (qM 0 0),.bool (yO s).isSome]) w:=by
 have:=(h.lookup (k:=s) (kt:=9) (et:=112) Tryz.underlying203 Tryz.underlying9 (aS w)).1;rw[uFA,Option.isSome_map]at this;exact this
theorem e4A{w w':World}{a b i j:Nat}{u v:Value}{m:Nat}{ks:xG}(hU:Under w w')(h:a < w.heap.size∧b < w.heap.size∧w.cell? ⟨a,i,none⟩=some u∧w.cell? ⟨b,j,none⟩=some v∧MapAt w m ks):w'.cell? ⟨a,i,none⟩=some u∧w'.cell? ⟨b,j,none⟩=some v∧MapAt w' m ks :=
 ⟨(dA hU h.1 _).trans h.2.2.1,(dA hU h.2.1 _).trans h.2.2.2.1,h.2.2.2.2.under hU⟩
def z5A(w:World)(b:Nat)(x:Nd):Prop:=w.cell? ⟨b,0,none⟩=some (.int .i64 x.k)∧w.cell? ⟨b,1,none⟩=some (.int .i64 x.n)∧w.cell? ⟨b,2,none⟩=some (.int .i64 x.m)∧w.cell? ⟨b,3,none⟩=some (.string x.s)
def uGA(x:Nd):Array Value:=#[.int .i64 x.k,.int .i64 x.n,.int .i64 x.m,.string x.s]
theorem dM{w:World}{b:Nat}{x:Nd}(h:BoxAt w b 112 (uGA x)):z5A w b x:=⟨h.cell 0,h.cell 1,h.cell 2,h.cell 3⟩
section
variable {W0 w w1 w2 : World} {rb m1 m2 nb g c : Nat} {cv dv ov : Value} {acc : List Nd} {p e : Int} {x : Nd}
theorem f1A(h:ReS W0 rb m1 m2 cv dv ov acc p e w)(hn:BoxAt w nb 112 (uGA x))(hne:ov.ownBlock≠some nb)(hU:Under w w2)(hg:w2.grownBy w1 ov.ownBlock):BoxAt w1 nb 112 (uGA x):=(hn.under hU).grown hg fun e=>hne e.symm
theorem ReOut.back{R:Say}{y:Ending}(hU:Under w w1)(h:ReOut W0 rb m1 m2 cv dv ov acc w1 R y w2):ReOut W0 rb m1 m2 cv dv ov acc w R y w2:=by
 obtain⟨ov',acc',p',e',h1,h2,h3,h4⟩:=h;exact⟨ov',acc',p',e',h1,(Ch.of_under hU).trans h2 (fun i _ h=>h),fun b hb e=>h3 b (by have:=hU.size;omega) e,h4⟩
theorem wEA (h : ReS W0 rb m1 m2 cv dv ov acc p e w) (hU : Under w w2) (hg : w2.grownBy w1 ov.ownBlock) (hat : ov.ownBlock = some g ∨ g = w2.heap.size)
    (hown:w1.ownsRow W0.heap.size 112 4 (.slice (some ⟨g,0,none⟩) (acc.length+1) c) (acc.length+1) (aC acc++[.int .i64 x.k,.int .i64 x.n,.int .i64 x.m,.string x.s])) :
    ReS W0 rb m1 m2 cv dv (.slice (some ⟨g,0,none⟩) (acc.length+1) c) (acc++[x]) p e (w1.setCell ⟨rb,4,none⟩ (.slice (some ⟨g,0,none⟩) (acc.length+1) c))∧Ch (xR rb ov) w (w1.setCell ⟨rb,4,none⟩ (.slice (some ⟨g,0,none⟩) (acc.length+1) c))∧(∀ b,b < w.heap.size→(Value.slice (some ⟨g,0,none⟩) (acc.length+1) c).ownBlock=some b→ov.ownBlock=some b):=by
  have h2:=h.under hU;have hb1:=h2.box.grown hg (fun e=>h2.ov_rb e.symm);have hc:Ch (xR rb ov) w w1:=(Ch.of_under hU).grown hg fun g e _=>.inr e
  have hc2:Ch (xR rb ov) w2 w1:=(Ch.refl _).grown hg fun g e _=>.inr e
  refine⟨⟨?_,?_,?_,?_,?_,h.lo⟩,hc.set (fun _=>.inl rfl) 4 _,?_⟩
  · exact hb1.set 4 _
  · exact yQ (yQ h2.f hc2 (fun e=>by rcases e with e | e;exact h2.rb_m1 e.symm;exact h2.ov_m1 e)) ((Ch.refl (C:=fun b=>b=rb) w1).set (g:=rb) (fun _=>rfl) 4 _) (fun e=>h2.rb_m1 e.symm)
  · exact yQ (yQ h2.a hc2 (fun e=>by rcases e with e | e;exact h2.rb_m2 e.symm;exact h2.ov_m2 e)) ((Ch.refl (C:=fun b=>b=rb) w1).set (g:=rb) (fun _=>rfl) 4 _) (fun e=>h2.rb_m2 e.symm)
  · have:=yB hown (b:=rb) (gB hb1 hown (by decide)) 4 (.slice (some ⟨g,0,none⟩) (acc.length+1) c);rw[List.length_append,aR];exact this
  · exact uK h.und (hc.set (fun _=>.inl rfl) 4 _) h.low
  · intro b hb e; have e : g = b := by simpa [Value.ownBlock] using e
    subst e;rcases hat with h | h
    · exact h
    · have:=hU.size;omega
end
theorem fO{P:Program}{c:Code}{Q:Exit→Act→World→Prop}{A:Array Value}{F:(Nat→Value)→Array Value}{df:List Deferred}{w:World}(hA:A=F fun n=>A.getD n undef)(h:∀ J,c.wp P Q ⟨F J,df⟩ w):c.wp P Q ⟨A,df⟩ w:=by
 have:=h fun n=>A.getD n undef
 rw[← hA]at this;exact this
noncomputable def xVA:Code:=Tryz.f150.body.getD .skip
noncomputable def wdPush:Code:=xA (jA (jA (jA (jA (jA (jA xVA))))))
def kJ(rb nb:Nat)(J:Nat→Value):Array Value:=#[.pointer (some ⟨rb,0,none⟩),J 1,J 2,J 3,J 4,J 5,.bool false,.pointer (some ⟨nb,0,none⟩),J 8,J 9,J 10,J 11,J 12,J 13,J 14,J 15,J 16,J 17,J 18,J 19,J 20,J 21,J 22,J 23,J 24,J 25,J 26,J 27,J 28,J 29,J 30,J 31,J 32,J 33,J 34,J 35,J 36,J 37,J 38,J 39,J 40,J 41,J 42,J 43,J 44,J 45,J 46,J 47,J 48,J 49,J 50,J 51,J 52,J 53,J 54,J 55,J 56,J 57,J 58,J 59,J 60,J 61,J 62,J 63,J 64,J 65,J 66,J 67,J 68,J 69,J 70,J 71,J 72,J 73,J 74,J 75,J 76,J 77,J 78]
def o5A(W0:World)(rb nb m1 m2:Nat)(cv dv ov:Value)(acc:List Nd)(p e:Int)(x:Nd)(w4:World)(ex:Exit)(a':Act)(w':World):Prop :=
 ex = .normal∧(∃ J,a'=⟨kJ rb nb J,[]⟩)∧∃ ov',ReS W0 rb m1 m2 cv dv ov' (acc++[x]) p e w'∧Ch (xR rb ov) w4 w'∧(∀ b,b < w4.heap.size→ov'.ownBlock=some b→ov.ownBlock=some b)
theorem mHA{W0 w4:World}{rb m1 m2 nb:Nat}{cv dv ov:Value}{acc:List Nd}{p e:Int}{x:Nd}(hR:ReS W0 rb m1 m2 cv dv ov acc p e w4)(hn:BoxAt w4 nb 112 (uGA x))(hne:ov.ownBlock≠some nb)(hrn:rb≠nb)(ha:acc.length≤1000000)(J:Nat→Value) :
 wdPush.wp Tryz.prog (o5A W0 rb nb m1 m2 cv dv ov acc p e x w4) ⟨kJ rb nb J,[]⟩ w4:=by
 obtain⟨i0,hi,hz0,hz1,hz2⟩:=info_parts Tryz.infoNode8;obtain⟨xk,xn,xm,xs⟩:=x;have HNy:=Lib.hid hn;have y4:=hR.box.cell 4;have yl:=hR.box.lt;have HRy:=Lib.hid hR;have nd0:=dM (x:=⟨xk,xn,xm,xs⟩) hn;have HNv:RowKit.Hid (ov.ownBlock≠some nb):=Lib.hid hne;have HNr:RowKit.Hid (rb≠nb):=Lib.hid hrn;have hmx:acc.length+1≤maxLen:=by simp only[maxLen];omega
 have hby:(acc.length+1) * 40≤140737488355328:=by omega
 have hlo:W0.heap.size≤w4.heap.size:=hR.und.size;clear hR hn hne hrn;unfold wdPush xVA;simp only[Tryz.f150,Option.getD_some,xA,jA];unfold kJ;refine wp_region_noPanic ?_;refine wp_region_held_drew (S:=fun w'=>w'.cell? ⟨nb,0,none⟩=some (.int .i64 (xk))∧w'.cell? ⟨nb,1,none⟩=some (.int .i64 (xn))∧w'.cell? ⟨nb,2,none⟩=some (.int .i64 (xm))∧w'.cell? ⟨nb,3,none⟩=some (.string xs)) (by kernel_rfl) nd0 (fun hHeld=>?_);co_applyP bA 0 rfl (by kernel_rfl) (by kernel_rfl) (fun _ _ _ h=>h) hHeld (fun w hSw=>?_) ?_;rotate_left
 · (try dsimp only at hSw);go_simp;try with_reducible rfl
 try walk_nrm
 co_applyP bA 1 rfl (by kernel_rfl) (by kernel_rfl) (fun _ _ _ h=>h) hHeld (fun w hSw=>?_) ?_;rotate_left
 · (try dsimp only at hSw);go_simp;try with_reducible rfl
 try walk_nrm
 co_applyP bA 2 rfl (by kernel_rfl) (by kernel_rfl) (fun _ _ _ h=>h) hHeld (fun w hSw=>?_) ?_;rotate_left
 · (try dsimp only at hSw);go_simp;try with_reducible rfl
 try walk_nrm
 co_applyP bA 3 rfl (by kernel_rfl) (by kernel_rfl) (fun _ _ _ h=>h) hHeld (fun w hSw=>?_) ?_;rotate_left
 · (try dsimp only at hSw);go_simp;try with_reducible rfl
 try walk_nrm
 co_applyP bA 5 rfl (by kernel_rfl) (by kernel_rfl) (fun _ _ _ h=>h) hHeld (fun w hSw=>?_) ?_;rotate_left
 · (try dsimp only at hSw);go_simp;try with_reducible rfl
 try walk_nrm
 refine bH 4 6 (by kernel_rfl) rfl rfl (fun K hK=>?_) (fun K hK=>?_)
 · go_simp; refine hK.out _ _ hHeld (fun _ => ?_); clear hK K hHeld; rename_i hHeld
   try walk_nrm
   refine iA 6 (by kernel_rfl) rfl fun K hK=>?_
   go_simp;refine hK.out _ _ ?_ (fun _=>?_)
   · exact dM (x:=⟨xk,xn,xm,xs⟩) ((HNy.out).under (by first | exact fA (Under.refl _) | exact fA (aA (Under.refl _) _) | exact aA (fA (Under.refl _)) _))
   clear hK K hHeld;rename_i hHeld
   try walk_nrm
   refine iA 7 (by kernel_rfl) rfl fun K hK=>?_
   refine step_append_lies _ (by rfl) _ _ _ (by rfl) W0.heap.size 112 i0 _ 4 40 Tryz.underlying30 hi hz0 hz1 hz2 rfl (by omega) ov acc.length (aC acc) (by rfl) (dC HRy.out.row (by first | exact fA (aA (Under.refl _) _) | exact aA (fA (Under.refl _)) _))
         ⟨w4.heap.size,0,none⟩ 1 1 [.int .i64 xk,.int .i64 xn,.int .i64 xm,.string xs] (by rfl) (by rfl) (World.news_of_block (cs:=#[.int .i64 xk,.int .i64 xn,.int .i64 xm,.string xs]) (t:=112) (fr:=(0,0)) (heap_alloc_new _ _)) (by simp[Value.oneCell'])
         (by omega) hmx hby (by simp;omega) (w4.heap.size+1) (by simp) ?_
   intro gg cc w5 hown5 hgrow5 hat5 hlt5;have HPd:=Lib.hid (wEA (x:=⟨xk,xn,xm,xs⟩) HRy.out (by first | exact fA (aA (Under.refl _) _) | exact aA (fA (Under.refl _)) _) hgrow5 (by rcases hat5 with h | h;exact .inl h;exact .inr (by rw[h];simp)) hown5);have HN5:=Lib.hid (f1A (x:=⟨xk,xn,xm,xs⟩) HRy.out (HNy.out) HNv.out (by first | exact fA (aA (Under.refl _) _) | exact aA (fA (Under.refl _)) _) hgrow5);have HB5:=Lib.hid ((HRy.out.box.under (by first | exact fA (aA (Under.refl _) _) | exact aA (fA (Under.refl _)) _)).grown hgrow5 (fun e=>HRy.out.ov_rb e.symm));have y5:=HB5.out.lt;have y6:=HB5.out.free 4;have y7:=HB5.out.cell 4;have HN6:=Lib.hid (HN5.out.other (g:=rb) (fun e=>HNr.out e.symm) 4 (.slice (some ⟨gg,0,none⟩) (acc.length+1) cc));clear hown5 hgrow5 hat5 hlt5;refine hK.out _ _ (dM (x:=⟨xk,xn,xm,xs⟩) HN5.out) (fun _=>?_);clear hK K hHeld;rename_i hHeld
   try walk_nrm
   co_applyP bA 8 rfl (by kernel_rfl) (by kernel_rfl) (fun _ _ _ h=>h) hHeld (fun w hSw=>?_) ?_;rotate_left
   · (try dsimp only at hSw);go_simp;try with_reducible rfl
   try walk_nrm
   co_applyP bA 9 rfl (by kernel_rfl) (by kernel_rfl) (fun _ _ _ h=>h) hHeld (fun w hSw=>?_) ?_;rotate_left
   · (try dsimp only at hSw);go_simp;try with_reducible rfl
   try walk_nrm
   refine iA 10 (by kernel_rfl) rfl fun K hK=>?_
   go_simp;refine hK.out _ _ (dM (x:=⟨xk,xn,xm,xs⟩) HN6.out) (fun _=>?_);clear hK K hHeld;rename_i hHeld
   try walk_nrm
   refine wpAnyH_done (by kernel_rfl) ?_ _;refine NoPanic.normal ?_;clear hHeld y5 y6 y7;exact⟨rfl,⟨_,zB (F:=kJ rb nb) (by rfl)⟩,_,HPd.out.1,HPd.out.2.1,HPd.out.2.2⟩
 · go_simp; refine hK.out _ _ ?_ (fun _ => ?_)
   · exact dM (x:=⟨xk,xn,xm,xs⟩) ((HNy.out).under (by first | exact fA (Under.refl _) | exact fA (aA (Under.refl _) _) | exact aA (fA (Under.refl _)) _))
   clear hK K hHeld;rename_i hHeld
   try walk_nrm
   refine iA 4 (by kernel_rfl) rfl fun K hK=>?_
   go_simp;refine hK.out _ _ hHeld (fun _=>?_);clear hK K hHeld;rename_i hHeld
   try walk_nrm
   refine iA 7 (by kernel_rfl) rfl fun K hK=>?_
   refine step_append_lies _ (by rfl) _ _ _ (by rfl) W0.heap.size 112 i0 _ 4 40 Tryz.underlying30 hi hz0 hz1 hz2 rfl (by omega) ov acc.length (aC acc) (by rfl) (dC HRy.out.row (by first | exact fA (aA (Under.refl _) _) | exact aA (fA (Under.refl _)) _))
         ⟨w4.heap.size,0,none⟩ 1 1 [.int .i64 xk,.int .i64 xn,.int .i64 xm,.string xs] (by rfl) (by rfl) (World.news_of_block (cs:=#[.int .i64 xk,.int .i64 xn,.int .i64 xm,.string xs]) (t:=112) (fr:=(0,0)) (heap_alloc_new _ _)) (by simp[Value.oneCell'])
         (by omega) hmx hby (by simp;omega) (w4.heap.size+1) (by simp) ?_
   intro gg cc w5 hown5 hgrow5 hat5 hlt5;have HPd:=Lib.hid (wEA (x:=⟨xk,xn,xm,xs⟩) HRy.out (by first | exact fA (aA (Under.refl _) _) | exact aA (fA (Under.refl _)) _) hgrow5 (by rcases hat5 with h | h;exact .inl h;exact .inr (by rw[h];simp)) hown5);have HN5:=Lib.hid (f1A (x:=⟨xk,xn,xm,xs⟩) HRy.out (HNy.out) HNv.out (by first | exact fA (aA (Under.refl _) _) | exact aA (fA (Under.refl _)) _) hgrow5);have HB5:=Lib.hid ((HRy.out.box.under (by first | exact fA (aA (Under.refl _) _) | exact aA (fA (Under.refl _)) _)).grown hgrow5 (fun e=>HRy.out.ov_rb e.symm));have y5:=HB5.out.lt;have y6:=HB5.out.free 4;have y7:=HB5.out.cell 4;have HN6:=Lib.hid (HN5.out.other (g:=rb) (fun e=>HNr.out e.symm) 4 (.slice (some ⟨gg,0,none⟩) (acc.length+1) cc));clear hown5 hgrow5 hat5 hlt5;refine hK.out _ _ (dM (x:=⟨xk,xn,xm,xs⟩) HN5.out) (fun _=>?_);clear hK K hHeld;rename_i hHeld
   try walk_nrm
   co_applyP bA 8 rfl (by kernel_rfl) (by kernel_rfl) (fun _ _ _ h=>h) hHeld (fun w hSw=>?_) ?_;rotate_left
   · (try dsimp only at hSw);go_simp;try with_reducible rfl
   try walk_nrm
   co_applyP bA 9 rfl (by kernel_rfl) (by kernel_rfl) (fun _ _ _ h=>h) hHeld (fun w hSw=>?_) ?_;rotate_left
   · (try dsimp only at hSw);go_simp;try with_reducible rfl
   try walk_nrm
   refine iA 10 (by kernel_rfl) rfl fun K hK=>?_
   go_simp;refine hK.out _ _ (dM (x:=⟨xk,xn,xm,xs⟩) HN6.out) (fun _=>?_);clear hK K hHeld;rename_i hHeld
   try walk_nrm
   refine wpAnyH_done (by kernel_rfl) ?_ _;refine NoPanic.normal ?_;clear hHeld y5 y6 y7;exact⟨rfl,⟨_,zB (F:=kJ rb nb) (by rfl)⟩,_,HPd.out.1,HPd.out.2.1,HPd.out.2.2⟩
def e2A(rb sb nb:Nat)(bv:Value)(fi:Bool)(J:Nat→Value):Array Value:=#[.pointer (some ⟨rb,0,none⟩),J 1,bv,J 3,.pointer (some ⟨sb,0,none⟩),J 5,.bool false,.pointer (some ⟨nb,0,none⟩),.bool fi,J 9,J 10,J 11,J 12,J 13,J 14,J 15,J 16,J 17,J 18,J 19,J 20,J 21,J 22,J 23,J 24,J 25,J 26,J 27,J 28,J 29,J 30,J 31,J 32,J 33,J 34,J 35,J 36,J 37,J 38,J 39,J 40,J 41,J 42,J 43,J 44,J 45,J 46,J 47,J 48,J 49,J 50,J 51,J 52,J 53,J 54,J 55,J 56,J 57,J 58,J 59,J 60,J 61,J 62,J 63,J 64,J 65,J 66,J 67,J 68,J 69,J 70,J 71,J 72,J 73,J 74,J 75,J 76,J 77,J 78]
def e6A(w:World)(rb sb nb:Nat)(bv:Value)(fi:Bool)(x n:Array Value)(e:Exit)(a':Act)(w':World):Prop:=e = .normal∧(∃ J,a'=⟨e2A rb sb nb bv fi J,[]⟩)∧Under w w'∧BoxAt w' nb 112 n∧BoxAt w' sb 28 x
theorem mUA(s:ByteArray):∃(k:Int) (fi:Bool),(((yO s).map fun k=>qM k 0).getD (qM 0 0) = .agg #[.int .i64 k,.int .i64 0,.int .i64 0,.string ⟨#[]⟩]∧(yO s).isSome=fi)∧((yO s=none∧fi=false∧k=0)∨(yO s=some k∧fi=true)):=by
 cases h:yO s with
 | none=>exact⟨0,false,⟨rfl,rfl⟩,.inl ⟨rfl,rfl,rfl⟩⟩
 | some k=>exact⟨k,true,⟨rfl,rfl⟩,.inr ⟨rfl,rfl⟩⟩
section
variable {W0 w : World} {rb m1 m2 : Nat} {cv dv ov : Value} {acc : List Nd} {p e : Int}
theorem mTA(x:Sx)(cs:List ByteArray)(st:List ByteArray){bv:Value}(hw:x.word.size≤1000000)(h:ReS W0 rb m1 m2 cv dv ov acc p e w)(hb:TextsV w bv st)(hn:st.length≤100000)(ha:acc.length≤1000000)(hcs:TextsV W0 cv cs)(hcn:cs.length≤1000000) :
 Calls Tryz.prog 150 #[.pointer (some ⟨rb,0,none⟩),sxV x,bv] w (ReOut W0 rb m1 m2 cv dv ov acc w (tJ cs x.pos x.word st)):=by
 obtain⟨mm,pp,s⟩:=x;simp only at *;obtain⟨k,fi,⟨hv,hfi⟩,hlf⟩:=mUA s;have HLf:=Lib.hid hlf;have hU0:=aA (Under.refl w) (.cells #[.int .i64 mm,.int .i64 pp,.string s] 28);have hR:=h.under hU0;have d1:=hR.box.cell 3;have d2:(w.alloc (.cells #[.int .i64 mm,.int .i64 pp,.string s] 28)).cell? ⟨w.heap.size,2,none⟩=some (.string s):=(qA w _ _).cell 2;have d3:=hR.a;have HLk:∀(w':World),MapAt w' m2 aloneL→(Instr.lookup 203 (.map (some m2)) (.string s) true).run Tryz.prog w' = .ok (.tuple #[.agg #[.int .i64 k,.int .i64 0,.int .i64 0,.string ⟨#[]⟩],.bool fi]) w':=fun w' h=>by
  rw[mMA h s,hv,hfi]
 have HD:=Lib.hid (show rb < (w.alloc (.cells #[.int .i64 mm,.int .i64 pp,.string s] 28)).heap.size∧w.heap.size < (w.alloc (.cells #[.int .i64 mm,.int .i64 pp,.string s] 28)).heap.size∧_ from⟨hR.box.lt,by simp,And.intro d1 (And.intro d2 d3)⟩);have dd:=And.intro d1 (And.intro d2 d3);have HB:=Lib.hid hb;have HR:=Lib.hid h;have HU0:=Lib.hid hU0;have HCs:=Lib.hid hcs;clear d1 d2 d3 hR hb hU0 hlf hv hfi hcs;unfold sxV;simp only;clear h;go_enter Tryz.func150,Tryz.ntmps150;go_wp2_with fail;rename_i K hK;refine wp_mono (Q:=e6A w rb w.heap.size (w.heap.size+1) bv fi #[.int .i64 mm,.int .i64 pp,.string s] (uGA ⟨k,0,0,⟨#[]⟩⟩)) ?_ ?_
 · refine wp_region_noPanic ?_; go_region_held3 (fun w' => w'.cell? ⟨rb, 3, none⟩ = some (.map (some m2)) ∧ w'.cell? ⟨w.heap.size, 2, none⟩ = some (.string s) ∧ MapAt w' m2 aloneL)
     (first
       | exact dd
       | exact e4A (fA (aA (Under.refl _) _)) HD.out
       | go_keep)
     (fail)
   all_goals
    refine NoPanic.normal ?_;refine⟨rfl,⟨_,zB (F:=e2A rb w.heap.size (w.heap.size+1) bv fi) (by rfl)⟩,fA (aA HU0.out _),?_,(qA w _ _).alloc _⟩;have:=qA (w.alloc (.cells #[.int .i64 mm,.int .i64 pp,.string s] 28)) #[.int .i64 k,.int .i64 0,.int .i64 0,.string ⟨#[]⟩] 112;rw[World.size_alloc]at this;exact this
 rintro ex a' wx ⟨rfl,⟨J,rfl⟩,hUx,hNb,hSx⟩;have HUx:=Lib.hid hUx;have HNb:=Lib.hid hNb;have HSx:=Lib.hid hSx;simp only[Exit.then];refine hK _ _ ?_;unfold e2A;clear hUx hNb hSx hK K dd HLk HD HU0;have HC:=Lib.hid (hMA (HB.out.under HUx.out) (by omega));go_wp2_with fail;refine HC.out.mono ?_;rintro e w2 ⟨u,rfl,hu,hU2⟩;have HRv:=Lib.hid (yGA (W:=wx) hu (by omega) (Nat.le_refl _) hU2);clear hu hU2 HC;go_wp2_with fail;refine HRv.out.mono ?_;rintro e w3 ⟨rfl,hu3,hU3⟩;have HT3:=TextsV.of_own (ss:=st.reverse) (by rw[List.length_reverse];exact hu3);have HI:=Lib.hid (kNA s HT3 (by rw[List.length_reverse];omega));obtain⟨q3,c3,rfl,_,_,_⟩:=HT3;rw[List.length_reverse]at HI ⊢;generalize st.length=stn at *;have HIx:=Lib.hid (fKA st s);generalize Lib.idxOfS st.reverse s=ix at *;have HUz:=Lib.hid (HUx.out.trans hU3);have HUy:=Lib.hid hU3;have hNy:=HNb.out.under hU3;have hSy:=HSx.out.under hU3;have s0:=hSy.cell 0;have s1:=hSy.cell 1;have s2:=hSy.cell 2;have sl:=hSy.lt;have HSy:=Lib.hid hSy;have HNy:=Lib.hid hNy;clear hSy hNy;clear hu3 hU3 HRv;go_wp2_with fail;refine HI.out.mono ?_;rintro e w4 ⟨rfl,rfl⟩;clear HI;rcases HLf.out with⟨hl,rfl,rfl⟩ | ⟨hl,rfl⟩
 rotate_left
 · have HW := Lib.hid (show tJ cs pp s st = .ok [⟨k, 0, 0, ⟨#[]⟩⟩] by unfold tJ; rw [hl]); clear hl; have HRy := Lib.hid (HR.out.under HUz.out); have HNv : RowKit.Hid (ov.ownBlock ≠ some (w.heap.size + 1)) := Lib.hid fun e => by have := (vB HR.out.row e).2; omega
   have HNr:RowKit.Hid (rb≠w.heap.size+1):=Lib.hid fun e=>by have:=HR.out.box.lt;omega
   go_wp2_with fail;rename_i K hK;refine fO (F:=kJ rb (w.heap.size+1)) (by rfl) fun J=>?_
   refine wp_mono (mHA (x:=⟨k,0,0,⟨#[]⟩⟩) HRy.out (HNy.out) HNv.out HNr.out ha J) ?_;rintro ex a' w9 ⟨rfl,⟨J',rfl⟩,ov',g1,g2,g3⟩;have HPd:=Lib.hid (And.intro g1 (And.intro g2 g3));clear g1 g2 g3;simp only[Exit.then];refine hK _ _ ?_;unfold kJ;go_wp2;go_ret;rw[HW.out];exact⟨_,_,_,_,HPd.out.1,(Ch.of_under HUz.out).trans (C:=xR rb ov) (D:=xR rb ov) HPd.out.2.1 (fun i _ h=>h),fun b hb e=>HPd.out.2.2 b (by have:=HUz.out.size;omega) e,rfl,rfl⟩
 have HNm:=Lib.hid (tQA (w0:=w4) ⟨mm,pp,s⟩ (rb:=rb) (m1:=m1) (m2:=m2) (by simp only[maxLen];omega) (HR.out.under HUz.out).tables);simp only[sxV]at HNm;have HL:=Lib.hid hl;clear hl HLf
 cases hk:aU s
 all_goals
  rw[hk]at HNm;go_wp2_with fail;refine HNm.out.mono ?_;rintro e w5 ⟨rfl,hU5⟩;have HUw:=Lib.hid (HUz.out.trans hU5);have s1':=(HSy.out.under hU5).cell 1;have s2':=(HSy.out.under hU5).cell 2;have sl':=(HSy.out.under hU5).lt;have HNz:=Lib.hid (HNy.out.under hU5);have hUs:=(fA (W:=w4) (w:=w5) (hU5));clear hU5 s0 s1 s2 sl HNm
 · have HW:=Lib.hid (show tJ cs pp s st = .error (71,pp) by simp[tJ,HL.out,hk]);have HWr:=Lib.hid (zY (HR.out.under HUw.out) pp 71);go_wp2_with fail;refine HWr.out.mono ?_;rintro e w6 hO;have HO:=Lib.hid (ReOut.back HUw.out hO);obtain⟨_,_,_,_,_,_,_,rfl,_,_⟩:=hO;go_wp2;go_ret;rw[HW.out];exact HO.out
 cases hf:cAA st s with
 | some ii =>
   obtain rfl:ix=(ii:Int):=by have:=HIx.out;rw[hf]at this;exact this
   by_cases h9:99 < ii
   · have HW := Lib.hid (show tJ cs pp s st = .error (2, pp) by simp [tJ, HL.out, hk, hf, h9]); have hi9 : (99 : Int) < (ii : Int) := by omega
     have HWr:=Lib.hid (zY (HR.out.under HUw.out) pp 2);go_wp2_with fail;refine HWr.out.mono ?_;rintro e w6 hO;have HO:=Lib.hid (ReOut.back HUw.out hO);obtain⟨_,_,_,_,_,_,_,rfl,_,_⟩:=hO;go_wp2;go_ret;rw[HW.out];exact HO.out
   · have HW := Lib.hid (show tJ cs pp s st = .ok [⟨0, (ii : Int), 0, ⟨#[]⟩⟩] by simp only [tJ, HL.out, hk, hf, if_true, if_neg h9]); have hi9 : (ii : Int) ≤ 99 := by omega
     have hi0:(0:Int)≤(ii:Int):=by omega
     have n0:w5.cell? ⟨w.heap.size+1,0,none⟩=some (.int .i64 0):=HNz.out.cell 0;have n1:w5.cell? ⟨w.heap.size+1,1,none⟩=some (.int .i64 0):=HNz.out.cell 1;have n2:w5.cell? ⟨w.heap.size+1,2,none⟩=some (.int .i64 0):=HNz.out.cell 2;have n3:w5.cell? ⟨w.heap.size+1,3,none⟩=some (.string ⟨#[]⟩):=HNz.out.cell 3;have nl:=HNz.out.lt;have nf0:=HNz.out.free 0;have nf1:=HNz.out.free 1;have nf2:=HNz.out.free 2;have nf3:=HNz.out.free 3;go_wp2_with fail;obtain⟨w6,hw6⟩:∃ w6,w6=(((w5.setCell ⟨w.heap.size+1,0,none⟩ (.int .i64 (0))).setCell ⟨w.heap.size+1,1,none⟩ (.int .i64 ((ii:Int)))).setCell ⟨w.heap.size+1,2,none⟩ (.int .i64 (0))).setCell ⟨w.heap.size+1,3,none⟩ (.string ⟨#[]⟩):=⟨_,rfl⟩;have HNq:RowKit.Hid (BoxAt w6 (w.heap.size+1) 112 (uGA ⟨0,(ii:Int),0,⟨#[]⟩⟩)):=Lib.hid (by rw[hw6];exact(((HNz.out.set 0 _).set 1 _).set 2 _).set 3 _);have HUz:=Lib.hid (show Under w w6 by rw[hw6];exact uA (uA (uA (uA HUw.out (by omega) _ _) (by omega) _ _) (by omega) _ _) (by omega) _ _);rw[← hw6];clear hw6 n0 n1 n2 n3 nl nf0 nf1 nf2 nf3 HNz s1' s2' sl';have HRy:=Lib.hid (HR.out.under HUz.out);have HNv:RowKit.Hid (ov.ownBlock≠some (w.heap.size+1)):=Lib.hid fun e=>by have:=(vB HR.out.row e).2;omega
     have HNr:RowKit.Hid (rb≠w.heap.size+1):=Lib.hid fun e=>by have:=HR.out.box.lt;omega
     go_wp2_with fail;rename_i K hK;refine fO (F:=kJ rb (w.heap.size+1)) (by rfl) fun J=>?_
     refine wp_mono (mHA (x:=⟨0,(ii:Int),0,⟨#[]⟩⟩) HRy.out (HNq.out) HNv.out HNr.out ha J) ?_;rintro ex a' w9 ⟨rfl,⟨J',rfl⟩,ov',g1,g2,g3⟩;have HPd:=Lib.hid (And.intro g1 (And.intro g2 g3));clear g1 g2 g3;simp only[Exit.then];refine hK _ _ ?_;unfold kJ;go_wp2;go_ret;rw[HW.out];exact⟨_,_,_,_,HPd.out.1,(Ch.of_under HUz.out).trans (C:=xR rb ov) (D:=xR rb ov) HPd.out.2.1 (fun i _ h=>h),fun b hb e=>HPd.out.2.2 b (by have:=HUz.out.size;omega) e,rfl,rfl⟩
 | none =>
   have HF:=Lib.hid hf
   cases hc:aL cs s
   all_goals
    obtain rfl:ix=(-1:Int):=by have:=HIx.out;rw[hf]at this;exact this
    have c0 := (HR.out.under HUw.out).box.cell 0; have cl := (HR.out.under HUw.out).box.lt; have HCt := Lib.hid (fun w' (hU : Under w5 w') => dO s (HCs.out.under ((HR.out.und.trans HUw.out).trans hU)) hcn); rw [hc] at HCt; have ccd := And.intro c0 s2'; go_wp2_with fail; go_region_held3 (fun w' => w'.cell? ⟨rb, 0, none⟩ = some cv ∧ w'.cell? ⟨w.heap.size, 2, none⟩ = some (.string s))
      (first
        | exact ccd
        | go_keep)
      ((go_at_call 55;refine(HCt.out _ (by first | exact fA (Under.refl _) | exact Under.refl _)).mono ?_;rintro e w7 ⟨rfl,rfl⟩))
    rename_i K hK hHeld;clear hHeld ccd c0 cl;have HUw:=Lib.hid (HUw.out.trans (fA (Under.refl _)));have HSz:=Lib.hid (HSy.out.under (hUs));have HNz:=Lib.hid (HNz.out.under (fA (Under.refl _)));have s1':=HSz.out.cell 1;have s2':=HSz.out.cell 2;have sl':=HSz.out.lt;generalize w5.drew=w5 at *
   · have HW:=Lib.hid (show tJ cs pp s st = .error (80,pp) by simp[tJ,HL.out,hk,HF.out,hc]);have HWr:=Lib.hid (zY (HR.out.under HUw.out) pp 80);go_wp2_with fail;refine HWr.out.mono ?_;rintro e w6 hO;have HO:=Lib.hid (ReOut.back HUw.out hO);obtain⟨_,_,_,_,_,_,_,rfl,_,_⟩:=hO;go_wp2;go_ret;rw[HW.out];exact HO.out
   · have HW := Lib.hid (show tJ cs pp s st = .ok [⟨1, 0, 0, s⟩] by simp [tJ, HL.out, hk, HF.out, hc]); have n0 : w5.cell? ⟨w.heap.size + 1, 0, none⟩ = some (.int .i64 0) := HNz.out.cell 0; have n1 : w5.cell? ⟨w.heap.size + 1, 1, none⟩ = some (.int .i64 0) := HNz.out.cell 1; have n2 : w5.cell? ⟨w.heap.size + 1, 2, none⟩ = some (.int .i64 0) := HNz.out.cell 2; have n3 : w5.cell? ⟨w.heap.size + 1, 3, none⟩ = some (.string ⟨#[]⟩) := HNz.out.cell 3; have nl := HNz.out.lt; have nf0 := HNz.out.free 0; have nf1 := HNz.out.free 1; have nf2 := HNz.out.free 2; have nf3 := HNz.out.free 3; go_wp2_with fail; obtain ⟨w6, hw6⟩ : ∃ w6, w6 = (((w5.setCell ⟨w.heap.size + 1, 0, none⟩ (.int .i64 (1))).setCell ⟨w.heap.size + 1, 1, none⟩ (.int .i64 (0))).setCell ⟨w.heap.size + 1, 2, none⟩ (.int .i64 (0))).setCell ⟨w.heap.size + 1, 3, none⟩ (.string s) := ⟨_, rfl⟩; have HNq : RowKit.Hid (BoxAt w6 (w.heap.size + 1) 112 (uGA ⟨1, 0, 0, s⟩)) := Lib.hid (by rw [hw6]; exact (((HNz.out.set 0 _).set 1 _).set 2 _).set 3 _); have HUz := Lib.hid (show Under w w6 by rw [hw6]; exact uA (uA (uA (uA HUw.out (by omega) _ _) (by omega) _ _) (by omega) _ _) (by omega) _ _); rw [← hw6]; clear hw6 n0 n1 n2 n3 nl nf0 nf1 nf2 nf3 HNz s1' s2' sl'; have HRy := Lib.hid (HR.out.under HUz.out); have HNv : RowKit.Hid (ov.ownBlock ≠ some (w.heap.size + 1)) := Lib.hid fun e => by have := (vB HR.out.row e).2; omega
     have HNr:RowKit.Hid (rb≠w.heap.size+1):=Lib.hid fun e=>by have:=HR.out.box.lt;omega
     go_wp2_with fail;rename_i K hK;refine fO (F:=kJ rb (w.heap.size+1)) (by rfl) fun J=>?_
     refine wp_mono (mHA (x:=⟨1,0,0,s⟩) HRy.out (HNq.out) HNv.out HNr.out ha J) ?_;rintro ex a' w9 ⟨rfl,⟨J',rfl⟩,ov',g1,g2,g3⟩;have HPd:=Lib.hid (And.intro g1 (And.intro g2 g3));clear g1 g2 g3;simp only[Exit.then];refine hK _ _ ?_;unfold kJ;go_wp2;go_ret;rw[HW.out];exact⟨_,_,_,_,HPd.out.1,(Ch.of_under HUz.out).trans (C:=xR rb ov) (D:=xR rb ov) HPd.out.2.1 (fun i _ h=>h),fun b hb e=>HPd.out.2.2 b (by have:=HUz.out.size;omega) e,rfl,rfl⟩
end
abbrev Pow10 (w : World) : Prop := Lib.TabIs Tryz.prog w "internal/strconv.uint64pow10" .u64 Lib.pow10Tab
theorem gPow : Tryz.prog.globalNamed "internal/strconv.uint64pow10" = some 5 := by kernel_rfl
theorem Pow10.under{W w:World}(h:Pow10 W)(hU:Under W w):Pow10 w:=by
 unfold Pow10 Lib.TabIs World.var? at *;rw[gPow]at *;simp only[Option.bind_some]at *;have hlt:5 < W.heap.size:=by
  cases hb:W.heap[5]? with
  | none=>simp[hb]at h
  | some o=>exact(Array.getElem?_eq_some_iff.1 hb).1
 rw[hU.low _ hlt];exact h
def tVA(v:Value):Prop:=v = .nilIface∨∃ te pe,v = .iface te pe
structure StrcAt (w:World):Prop where
 es:∃ v,w.cell? ⟨1,0,none⟩=some v∧tVA v
 er:∃ v,w.cell? ⟨2,0,none⟩=some v∧tVA v
 pow:Pow10 w
theorem xS{w:World}{a:Addr}{v:Value}(h:w.cell? a=some v):a.block < w.heap.size:=by
 unfold World.cell? at h
 cases hb:w.heap[a.block]? with
 | none=>simp[hb]at h
 | some o=>exact(Array.getElem?_eq_some_iff.1 hb).1
theorem StrcAt.under{W w:World}(h:StrcAt W)(hU:Under W w):StrcAt w:=by
 obtain⟨⟨v,h1,h2⟩,⟨u,h3,h4⟩,h5⟩:=h;exact⟨⟨v,(dA hU (xS h1) 0).trans h1,h2⟩,⟨u,(dA hU (xS h3) 0).trans h3,h4⟩,h5.under hU⟩
section
variable {w0 : World}
end
end Go.Proofs.YtggjbblgoddnjaaGreatDoor
