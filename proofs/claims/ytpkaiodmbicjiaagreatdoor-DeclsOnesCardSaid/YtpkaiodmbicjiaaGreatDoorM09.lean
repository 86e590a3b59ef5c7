/- Part 9 of what the proof rests on. -/
import Derived.Deep.RegionLaw
import Derived.Deep.RegionHeld3
import Derived.Deep.AppendLies
import Derived.Conc.CompanyMem
import Derived.Conc.WalkWords
import Derived.Lib.SlBytesRow
import Derived.Lib.BufferRead
import Derived.Lib.ItoaLen
import Derived.Lib.SliceRun
import Derived.Laws.AppendOwnNone
import Derived.Scope
import Derived.WalkMore
import Derived.Test.YtpkaiodmbicjiaaGreatDoorM00
import Derived.Test.YtpkaiodmbicjiaaGreatDoorM05
import Derived.Test.YtpkaiodmbicjiaaGreatDoorM06
import Derived.Test.YtpkaiodmbicjiaaGreatDoorM08
set_option linter.unusedSimpArgs false
set_option linter.unusedVariables false
set_option maxRecDepth 100000
set_option maxHeartbeats 4000000
namespace Go.Proofs.YtpkaiodmbicjiaaGreatDoor
open Go.Proofs.Tryz
open Go.Lx Go.RowKit
theorem Tryz.infoNode8:(Tryz.prog.info? 96).map (λi=>(i.zero,i.size,i.bytes))=some (some (.agg #[.int .i64 0,.int .i64 0,.int .i64 0,.string ⟨#[]⟩]),4,40):=by kernel_rfl
theorem aRA{w:World}{m2:Nat}(h:MapAt w m2 aloneL)(s:ByteArray):(Instr.lookup 127 (.map (some m2)) (.string s) true).run prog w = .ok (.tuple #[((qM s).map λk=>pO k 0).getD (pO 0 0),.bool (qM s).isSome]) w:=by
 have:=(h.lookup (k:=s) (kt:=9) (et:=96) underlying127 underlying9 (sU w)).1;rw[lHA,Option.isSome_map]at this;exact this
theorem nDA{w w':World}{a b i j:Nat}{u v:Value}{m:Nat}{ks:tH}(hU:Under w w')(h:a < w.heap.size/\b < w.heap.size/\w.cell? ⟨a,i,none⟩=some u/\w.cell? ⟨b,j,none⟩=some v/\MapAt w m ks):w'.cell? ⟨a,i,none⟩=some u/\w'.cell? ⟨b,j,none⟩=some v/\MapAt w' m ks :=
 ⟨(iA hU h.1 _).trans h.2.2.1,(iA hU h.2.1 _).trans h.2.2.2.1,h.2.2.2.2.under hU⟩
def fDB(w:World)(b:Nat)(x:Nd):Prop:=w.cell? ⟨b,0,none⟩=some (.int .i64 x.k)/\w.cell? ⟨b,1,none⟩=some (.int .i64 x.n)/\w.cell? ⟨b,2,none⟩=some (.int .i64 x.m)/\w.cell? ⟨b,3,none⟩=some (.string x.s)
def sQ(x:Nd):Array Value:=#[.int .i64 x.k,.int .i64 x.n,.int .i64 x.m,.string x.s]
theorem uG{w:World}{b:Nat}{x:Nd}(h:BoxAt w b 96 (sQ x)):fDB w b x:=⟨h.cell 0,h.cell 1,h.cell 2,h.cell 3⟩
section
variable {W0 w w1 w2 : World} {rb m1 m2 nb g c : Nat} {cv dv ov : Value} {acc : List Nd} {p e : Int} {x : Nd}
theorem bUA(h:ReS W0 rb m1 m2 cv dv ov acc p e w)(hn:BoxAt w nb 96 (sQ x))(hne:ov.ownBlock≠some nb)(hU:Under w w2)(hg:w2.grownBy w1 ov.ownBlock):BoxAt w1 nb 96 (sQ x):=(hn.under hU).grown hg λe=>hne e.symm
theorem ReOut.back{R:Say}{y:Ending}(hU:Under w w1)(h:ReOut W0 rb m1 m2 cv dv ov acc w1 R y w2):ReOut W0 rb m1 m2 cv dv ov acc w R y w2:=by
 obtain⟨ov',acc',p',e',h1,h2,h3,h4⟩:=h;exact⟨ov',acc',p',e',h1,(Ch.of_under hU).trans h2 (λi _ h=>h),λb hb e=>h3 b (by have:=hU.size;omega) e,h4⟩
theorem aV(h:ReS W0 rb m1 m2 cv dv ov acc p e w)(hU:Under w w2)(hg:w2.grownBy w1 ov.ownBlock)(hat:ov.ownBlock=some g∨g=w2.heap.size)
    (hown:w1.ownsRow W0.heap.size 96 4 (.slice (some ⟨g,0,none⟩) (acc.length+1) c) (acc.length+1) (dC acc++[.int .i64 x.k,.int .i64 x.n,.int .i64 x.m,.string x.s])) :
    ReS W0 rb m1 m2 cv dv (.slice (some ⟨g,0,none⟩) (acc.length+1) c) (acc++[x]) p e (w1.setCell ⟨rb,4,none⟩ (.slice (some ⟨g,0,none⟩) (acc.length+1) c))/\Ch (qG rb ov) w (w1.setCell ⟨rb,4,none⟩ (.slice (some ⟨g,0,none⟩) (acc.length+1) c))/\(∀ b,b < w.heap.size->(Value.slice (some ⟨g,0,none⟩) (acc.length+1) c).ownBlock=some b->ov.ownBlock=some b):=by
  have h2:=h.under hU;have hb1:=h2.box.grown hg (λe=>h2.ov_rb e.symm);have hc:Ch (qG rb ov) w w1:=(Ch.of_under hU).grown hg λg e _=>.inr e
  have hc2:Ch (qG rb ov) w2 w1:=(Ch.refl _).grown hg λg e _=>.inr e
  refine⟨⟨?_,?_,?_,?_,?_,h.lo⟩,hc.set (λ_=>.inl rfl) 4 _,?_⟩
  . exact hb1.set 4 _
  . exact tT (tT h2.f hc2 (λe=>by rcases e with e|e;exact h2.rb_m1 e.symm;exact h2.ov_m1 e)) ((Ch.refl (C:=λb=>b=rb) w1).set (g:=rb) (λ_=>rfl) 4 _) (λe=>h2.rb_m1 e.symm)
  . exact tT (tT h2.a hc2 (λe=>by rcases e with e|e;exact h2.rb_m2 e.symm;exact h2.ov_m2 e)) ((Ch.refl (C:=λb=>b=rb) w1).set (g:=rb) (λ_=>rfl) 4 _) (λe=>h2.rb_m2 e.symm)
  . have:=qD hown (b:=rb) (bC hb1 hown (by decide)) 4 (.slice (some ⟨g,0,none⟩) (acc.length+1) c);rw[Qc,gT];exact this
  . exact dB h.und (hc.set (λ_=>.inl rfl) 4 _) h.low
  . intro b hb e;have e:g=b:=by simpa [Value.ownBlock] using e
    subst e;rcases hat with h|h
    . exact h
    . have:=hU.size;omega
end
theorem kU{P:Program}{c:Code}{Q:Exit->Act->World->Prop}{A:Array Value}{F:(Nat->Value)->Array Value}{df:List Deferred}{w:World}(hA:A=F λn=>A.getD n undef)(h:∀ J,c.wp P Q ⟨F J,df⟩ w):c.wp P Q ⟨A,df⟩ w:=by
 have:=h λn=>A.getD n undef
 rw[<- hA]at this;exact this
noncomputable def z1A:Code:=f79.body.getD .skip
noncomputable def wdPush:Code:=aB (jA (jA (jA (jA (jA (jA z1A))))))
def pK(rb nb:Nat)(J:Nat->Value):Array Value:=#[.pointer (some ⟨rb,0,none⟩),J 1,J 2,J 3,J 4,J 5,.bool false,.pointer (some ⟨nb,0,none⟩),J 8,J 9,J 10,J 11,J 12,J 13,J 14,J 15,J 16,J 17,J 18,J 19,J 20,J 21,J 22,J 23,J 24,J 25,J 26,J 27,J 28,J 29,J 30,J 31,J 32,J 33,J 34,J 35,J 36,J 37,J 38,J 39,J 40,J 41,J 42,J 43,J 44,J 45,J 46,J 47,J 48,J 49,J 50,J 51,J 52,J 53,J 54,J 55,J 56,J 57,J 58,J 59,J 60,J 61,J 62,J 63,J 64,J 65,J 66,J 67,J 68,J 69,J 70,J 71,J 72,J 73,J 74,J 75,J 76,J 77,J 78]
def uCB(W0:World)(rb nb m1 m2:Nat)(cv dv ov:Value)(acc:List Nd)(p e:Int)(x:Nd)(w4:World)(ex:Exit)(a':Act)(w':World):Prop :=
 ex = .normal/\(∃ J,a'=⟨pK rb nb J,[]⟩)/\∃ ov',ReS W0 rb m1 m2 cv dv ov' (acc++[x]) p e w'/\Ch (qG rb ov) w4 w'/\(∀ b,b < w4.heap.size->ov'.ownBlock=some b->ov.ownBlock=some b)
theorem fJA{W0 w4:World}{rb m1 m2 nb:Nat}{cv dv ov:Value}{acc:List Nd}{p e:Int}{x:Nd}(hR:ReS W0 rb m1 m2 cv dv ov acc p e w4)(hn:BoxAt w4 nb 96 (sQ x))(hne:ov.ownBlock≠some nb)(hrn:rb≠nb)(ha:acc.length<=1000000)(J:Nat->Value) :
 wdPush.wp prog (uCB W0 rb nb m1 m2 cv dv ov acc p e x w4) ⟨pK rb nb J,[]⟩ w4:=by
 obtain⟨i0,hi,hz0,hz1,hz2⟩:=info_parts Tryz.infoNode8;obtain⟨xk,xn,xm,xs⟩:=x;have HNy:=aA hn;have y4:=hR.box.cell 4;have yl:=hR.box.lt;have HRy:=aA hR;have nd0:=uG (x:=⟨xk,xn,xm,xs⟩) hn;have HNv:RowKit.Hid (ov.ownBlock≠some nb):=aA hne;have HNr:RowKit.Hid (rb≠nb):=aA hrn;have hmx:acc.length+1<=maxLen:=by simp only[maxLen];omega
 have hby:(acc.length+1) * 40<=140737488355328:=by omega
 have hlo:W0.heap.size<=w4.heap.size:=hR.und.size;clear hR hn hne hrn;unfold wdPush z1A;simp only[f79,Qf,aB,jA];unfold pK;refine wp_region_noPanic ?_;refine wp_region_held_drew (S:=λw'=>w'.cell? ⟨nb,0,none⟩=some (.int .i64 (xk))/\w'.cell? ⟨nb,1,none⟩=some (.int .i64 (xn))/\w'.cell? ⟨nb,2,none⟩=some (.int .i64 (xm))/\w'.cell? ⟨nb,3,none⟩=some (.string xs)) (by kernel_rfl) nd0 (λhHeld=>?_);refine dA 0 rfl ?_;refine dA 1 rfl ?_;refine dA 2 rfl ?_;refine dA 3 rfl ?_;refine dA 5 rfl ?_
 try walk_nrm
 refine kG 4 6 (by kernel_rfl) rfl rfl (λK hK=>?_) (λK hK=>?_)
 . go_simp;refine hK.out _ _ hHeld (λ_=>?_);clear hK K hHeld;rename_i hHeld
   try walk_nrm
   refine yA 6 (by kernel_rfl) rfl λK hK=>?_
   go_simp;refine hK.out _ _ ?_ (λ_=>?_)
   . exact uG (x:=⟨xk,xn,xm,xs⟩) ((HNy.out).under (by first|exact fA (Qu _)|exact fA (bA (Qu _) _)|exact bA (fA (Qu _)) _))
   clear hK K hHeld;rename_i hHeld
   try walk_nrm
   refine yA 7 (by kernel_rfl) rfl λK hK=>?_
   refine step_append_lies _ (by rfl) _ _ _ (by rfl) W0.heap.size 96 i0 _ 4 40 underlying30 hi hz0 hz1 hz2 rfl (by omega) ov acc.length (dC acc) (by rfl) (uA HRy.out.row (by first|exact fA (bA (Qu _) _)|exact bA (fA (Qu _)) _))
         ⟨w4.heap.size,0,none⟩ 1 1 [.int .i64 xk,.int .i64 xn,.int .i64 xm,.string xs] (by rfl) (by rfl) (World.news_of_block (cs:=#[.int .i64 xk,.int .i64 xn,.int .i64 xm,.string xs]) (t:=96) (fr:=(0,0)) (heap_alloc_new _ _)) (by simp[Value.oneCell'])
         (by omega) hmx hby (by simp;omega) (w4.heap.size+1) (by simp) ?_
   intro gg cc w5 hown5 hgrow5 hat5 hlt5;have HPd:=aA (aV (x:=⟨xk,xn,xm,xs⟩) HRy.out (by first|exact fA (bA (Qu _) _)|exact bA (fA (Qu _)) _) hgrow5 (by rcases hat5 with h|h;exact .inl h;exact .inr (by rw[h];simp)) hown5);have HN5:=aA (bUA (x:=⟨xk,xn,xm,xs⟩) HRy.out (HNy.out) HNv.out (by first|exact fA (bA (Qu _) _)|exact bA (fA (Qu _)) _) hgrow5);have HB5:=aA ((HRy.out.box.under (by first|exact fA (bA (Qu _) _)|exact bA (fA (Qu _)) _)).grown hgrow5 (λe=>HRy.out.ov_rb e.symm));have y5:=HB5.out.lt;have y6:=HB5.out.free 4;have y7:=HB5.out.cell 4;have HN6:=aA (HN5.out.other (g:=rb) (λe=>HNr.out e.symm) 4 (.slice (some ⟨gg,0,none⟩) (acc.length+1) cc));clear hown5 hgrow5 hat5 hlt5;refine hK.out _ _ (uG (x:=⟨xk,xn,xm,xs⟩) HN5.out) (λ_=>?_);clear hK K hHeld;rename_i hHeld
   try walk_nrm
   refine dA 8 rfl ?_;refine dA 9 rfl ?_;refine yA 10 (by kernel_rfl) rfl λK hK=>?_
   go_simp;refine hK.out _ _ (uG (x:=⟨xk,xn,xm,xs⟩) HN6.out) (λ_=>?_);clear hK K hHeld;rename_i hHeld
   try walk_nrm
   refine wpAnyH_done (by kernel_rfl) ?_ _;refine NoPanic.normal ?_;clear hHeld y5 y6 y7;exact⟨rfl,⟨_,fB (F:=pK rb nb) (by rfl)⟩,_,HPd.out.1,HPd.out.2.1,HPd.out.2.2⟩
 . go_simp;refine hK.out _ _ ?_ (λ_=>?_)
   . exact uG (x:=⟨xk,xn,xm,xs⟩) ((HNy.out).under (by first|exact fA (Qu _)|exact fA (bA (Qu _) _)|exact bA (fA (Qu _)) _))
   clear hK K hHeld;rename_i hHeld
   try walk_nrm
   refine yA 4 (by kernel_rfl) rfl λK hK=>?_
   go_simp;refine hK.out _ _ hHeld (λ_=>?_);clear hK K hHeld;rename_i hHeld
   try walk_nrm
   refine yA 7 (by kernel_rfl) rfl λK hK=>?_
   refine step_append_lies _ (by rfl) _ _ _ (by rfl) W0.heap.size 96 i0 _ 4 40 underlying30 hi hz0 hz1 hz2 rfl (by omega) ov acc.length (dC acc) (by rfl) (uA HRy.out.row (by first|exact fA (bA (Qu _) _)|exact bA (fA (Qu _)) _))
         ⟨w4.heap.size,0,none⟩ 1 1 [.int .i64 xk,.int .i64 xn,.int .i64 xm,.string xs] (by rfl) (by rfl) (World.news_of_block (cs:=#[.int .i64 xk,.int .i64 xn,.int .i64 xm,.string xs]) (t:=96) (fr:=(0,0)) (heap_alloc_new _ _)) (by simp[Value.oneCell'])
         (by omega) hmx hby (by simp;omega) (w4.heap.size+1) (by simp) ?_
   intro gg cc w5 hown5 hgrow5 hat5 hlt5;have HPd:=aA (aV (x:=⟨xk,xn,xm,xs⟩) HRy.out (by first|exact fA (bA (Qu _) _)|exact bA (fA (Qu _)) _) hgrow5 (by rcases hat5 with h|h;exact .inl h;exact .inr (by rw[h];simp)) hown5);have HN5:=aA (bUA (x:=⟨xk,xn,xm,xs⟩) HRy.out (HNy.out) HNv.out (by first|exact fA (bA (Qu _) _)|exact bA (fA (Qu _)) _) hgrow5);have HB5:=aA ((HRy.out.box.under (by first|exact fA (bA (Qu _) _)|exact bA (fA (Qu _)) _)).grown hgrow5 (λe=>HRy.out.ov_rb e.symm));have y5:=HB5.out.lt;have y6:=HB5.out.free 4;have y7:=HB5.out.cell 4;have HN6:=aA (HN5.out.other (g:=rb) (λe=>HNr.out e.symm) 4 (.slice (some ⟨gg,0,none⟩) (acc.length+1) cc));clear hown5 hgrow5 hat5 hlt5;refine hK.out _ _ (uG (x:=⟨xk,xn,xm,xs⟩) HN5.out) (λ_=>?_);clear hK K hHeld;rename_i hHeld
   try walk_nrm
   refine dA 8 rfl ?_;refine dA 9 rfl ?_;refine yA 10 (by kernel_rfl) rfl λK hK=>?_
   go_simp;refine hK.out _ _ (uG (x:=⟨xk,xn,xm,xs⟩) HN6.out) (λ_=>?_);clear hK K hHeld;rename_i hHeld
   try walk_nrm
   refine wpAnyH_done (by kernel_rfl) ?_ _;refine NoPanic.normal ?_;clear hHeld y5 y6 y7;exact⟨rfl,⟨_,fB (F:=pK rb nb) (by rfl)⟩,_,HPd.out.1,HPd.out.2.1,HPd.out.2.2⟩
def vAB(rb sb nb:Nat)(bv:Value)(fi:Bool)(J:Nat->Value):Array Value:=#[.pointer (some ⟨rb,0,none⟩),J 1,bv,J 3,.pointer (some ⟨sb,0,none⟩),J 5,.bool false,.pointer (some ⟨nb,0,none⟩),.bool fi,J 9,J 10,J 11,J 12,J 13,J 14,J 15,J 16,J 17,J 18,J 19,J 20,J 21,J 22,J 23,J 24,J 25,J 26,J 27,J 28,J 29,J 30,J 31,J 32,J 33,J 34,J 35,J 36,J 37,J 38,J 39,J 40,J 41,J 42,J 43,J 44,J 45,J 46,J 47,J 48,J 49,J 50,J 51,J 52,J 53,J 54,J 55,J 56,J 57,J 58,J 59,J 60,J 61,J 62,J 63,J 64,J 65,J 66,J 67,J 68,J 69,J 70,J 71,J 72,J 73,J 74,J 75,J 76,J 77,J 78]
def iDB(w:World)(rb sb nb:Nat)(bv:Value)(fi:Bool)(x n:Array Value)(e:Exit)(a':Act)(w':World):Prop:=e = .normal/\(∃ J,a'=⟨vAB rb sb nb bv fi J,[]⟩)/\Under w w'/\BoxAt w' nb 96 n/\BoxAt w' sb 28 x
theorem j1A(s:ByteArray):∃(k:Int) (fi:Bool),(((qM s).map λk=>pO k 0).getD (pO 0 0) = .agg #[.int .i64 k,.int .i64 0,.int .i64 0,.string ⟨#[]⟩]/\(qM s).isSome=fi)/\((qM s=none/\fi=false/\k=0)∨(qM s=some k/\fi=true)):=by
 cases h:qM s with
 | none=>exact⟨0,false,⟨rfl,rfl⟩,.inl ⟨rfl,rfl,rfl⟩⟩
 | some k=>exact⟨k,true,⟨rfl,rfl⟩,.inr ⟨rfl,rfl⟩⟩
section
variable {W0 w : World} {rb m1 m2 : Nat} {cv dv ov : Value} {acc : List Nd} {p e : Int}
theorem uUA(x:Sx)(cs:List ByteArray)(st:List ByteArray){bv:Value}(hw:x.word.size<=1000000)(h:ReS W0 rb m1 m2 cv dv ov acc p e w)(hb:TextsV w bv st)(hn:st.length<=100000)(ha:acc.length<=1000000)(hcs:TextsV W0 cv cs)(hcn:cs.length<=1000000) :
 Calls prog 79 #[.pointer (some ⟨rb,0,none⟩),sxV x,bv] w (ReOut W0 rb m1 m2 cv dv ov acc w (gG cs x.pos x.word st)):=by
 obtain⟨mm,pp,s⟩:=x;simp only at *;obtain⟨k,fi,⟨hv,hfi⟩,hlf⟩:=j1A s;have HLf:=aA hlf;have hU0:=bA (Qu w) (.cells #[.int .i64 mm,.int .i64 pp,.string s] 28);have hR:=h.under hU0;have d1:=hR.box.cell 3;have d2:(w.alloc (.cells #[.int .i64 mm,.int .i64 pp,.string s] 28)).cell? ⟨w.heap.size,2,none⟩=some (.string s):=(zA w _ _).cell 2;have d3:=hR.a;have HLk:∀(w':World),MapAt w' m2 aloneL->(Instr.lookup 127 (.map (some m2)) (.string s) true).run prog w' = .ok (.tuple #[.agg #[.int .i64 k,.int .i64 0,.int .i64 0,.string ⟨#[]⟩],.bool fi]) w':=λw' h=>by
  rw[aRA h s,hv,hfi]
 have HD:=aA (show rb < (w.alloc (.cells #[.int .i64 mm,.int .i64 pp,.string s] 28)).heap.size/\w.heap.size < (w.alloc (.cells #[.int .i64 mm,.int .i64 pp,.string s] 28)).heap.size/\_ from⟨hR.box.lt,by simp,And.intro d1 (And.intro d2 d3)⟩);have dd:=And.intro d1 (And.intro d2 d3);have HB:=aA hb;have HR:=aA h;have HU0:=aA hU0;have HCs:=aA hcs;clear d1 d2 d3 hR hb hU0 hlf hv hfi hcs;unfold sxV;simp only;clear h;go_enter func79,ntmps79;go_wp2_with fail;rename_i K hK;refine wp_mono (Q:=iDB w rb w.heap.size (w.heap.size+1) bv fi #[.int .i64 mm,.int .i64 pp,.string s] (sQ ⟨k,0,0,⟨#[]⟩⟩)) ?_ ?_
 . refine wp_region_noPanic ?_;go_region_held3 (λw'=>w'.cell? ⟨rb,3,none⟩=some (.map (some m2))/\w'.cell? ⟨w.heap.size,2,none⟩=some (.string s)/\MapAt w' m2 aloneL)
     (first
       | exact dd
       | exact nDA (fA (bA (Qu _) _)) HD.out
       | go_keep)
     (fail)
   all_goals
    refine NoPanic.normal ?_;refine⟨rfl,⟨_,fB (F:=vAB rb w.heap.size (w.heap.size+1) bv fi) (by rfl)⟩,fA (bA HU0.out _),?_,(zA w _ _).alloc _⟩;have:=zA (w.alloc (.cells #[.int .i64 mm,.int .i64 pp,.string s] 28)) #[.int .i64 k,.int .i64 0,.int .i64 0,.string ⟨#[]⟩] 96;rw[World.size_alloc]at this;exact this
 rintro ex a' wx ⟨rfl,⟨J,rfl⟩,hUx,hNb,hSx⟩;have HUx:=aA hUx;have HNb:=aA hNb;have HSx:=aA hSx;simp only[Exit.then];refine hK _ _ ?_;unfold vAB;clear hUx hNb hSx hK K dd HLk HD HU0;have HC:=aA (vOA (HB.out.under HUx.out) (by omega));go_wp2_with fail;refine HC.out.mono ?_;rintro e w2 ⟨u,rfl,hu,hU2⟩;have HRv:=aA (nIA (W:=wx) hu (by omega) (Qd _) hU2);clear hu hU2 HC;go_wp2_with fail;refine HRv.out.mono ?_;rintro e w3 ⟨rfl,hu3,hU3⟩;have HT3:=TextsV.of_own (ss:=st.reverse) (by rw[List.length_reverse];exact hu3);have HI:=aA (wSA s HT3 (by rw[List.length_reverse];omega));obtain⟨q3,c3,rfl,_,_,_⟩:=HT3;rw[List.length_reverse]at HI ⊢;generalize st.length=stn at *;have HIx:=aA (dOA st s);generalize Lib.idxOfS st.reverse s=ix at *;have HUz:=aA (HUx.out.trans hU3);have HUy:=aA hU3;have hNy:=HNb.out.under hU3;have hSy:=HSx.out.under hU3;have s0:=hSy.cell 0;have s1:=hSy.cell 1;have s2:=hSy.cell 2;have sl:=hSy.lt;have HSy:=aA hSy;have HNy:=aA hNy;clear hSy hNy;clear hu3 hU3 HRv;go_wp2_with fail;refine HI.out.mono ?_;rintro e w4 ⟨rfl,rfl⟩;clear HI;rcases HLf.out with⟨hl,rfl,rfl⟩|⟨hl,rfl⟩
 rotate_left
 . have HW:=aA (show gG cs pp s st = .ok [⟨k,0,0,⟨#[]⟩⟩] by unfold gG;rw[hl]);clear hl;have HRy:=aA (HR.out.under HUz.out);have HNv:RowKit.Hid (ov.ownBlock≠some (w.heap.size+1)):=aA λe=>by have:=(xB HR.out.row e).2;omega
   have HNr:RowKit.Hid (rb≠w.heap.size+1):=aA λe=>by have:=HR.out.box.lt;omega
   go_wp2_with fail;rename_i K hK;refine kU (F:=pK rb (w.heap.size+1)) (by rfl) λJ=>?_
   refine wp_mono (fJA (x:=⟨k,0,0,⟨#[]⟩⟩) HRy.out (HNy.out) HNv.out HNr.out ha J) ?_;rintro ex a' w9 ⟨rfl,⟨J',rfl⟩,ov',g1,g2,g3⟩;have HPd:=aA (And.intro g1 (And.intro g2 g3));clear g1 g2 g3;simp only[Exit.then];refine hK _ _ ?_;unfold pK;go_wp2;go_ret;rw[HW.out];exact⟨_,_,_,_,HPd.out.1,(Ch.of_under HUz.out).trans (C:=qG rb ov) (D:=qG rb ov) HPd.out.2.1 (λi _ h=>h),λb hb e=>HPd.out.2.2 b (by have:=HUz.out.size;omega) e,rfl,rfl⟩
 have HNm:=aA (oK (w0:=w4) ⟨mm,pp,s⟩ (rb:=rb) (m1:=m1) (m2:=m2) (by simp only[maxLen];omega) (HR.out.under HUz.out).tables);simp only[sxV]at HNm;have HL:=aA hl;clear hl HLf
 cases hk:nH s
 all_goals
  rw[hk]at HNm;go_wp2_with fail;refine HNm.out.mono ?_;rintro e w5 ⟨rfl,hU5⟩;have HUw:=aA (HUz.out.trans hU5);have s1':=(HSy.out.under hU5).cell 1;have s2':=(HSy.out.under hU5).cell 2;have sl':=(HSy.out.under hU5).lt;have HNz:=aA (HNy.out.under hU5);have hUs:=(fA (W:=w4) (w:=w5) (hU5));clear hU5 s0 s1 s2 sl HNm
 . have HW:=aA (show gG cs pp s st = .error (71,pp) by simp[gG,HL.out,hk]);have HWr:=aA (jG (HR.out.under HUw.out) pp 71);go_wp2_with fail;refine HWr.out.mono ?_;rintro e w6 hO;have HO:=aA (ReOut.back HUw.out hO);obtain⟨_,_,_,_,_,_,_,rfl,_,_⟩:=hO;go_wp2;go_ret;rw[HW.out];exact HO.out
 cases hf:zJ st s with
 | some ii =>
   obtain rfl:ix=(ii:Int):=by have:=HIx.out;rw[hf]at this;exact this
   by_cases h9:99 < ii
   . have HW:=aA (show gG cs pp s st = .error (2,pp) by simp[gG,HL.out,hk,hf,h9]);have hi9:(99:Int) < (ii:Int):=by omega
     have HWr:=aA (jG (HR.out.under HUw.out) pp 2);go_wp2_with fail;refine HWr.out.mono ?_;rintro e w6 hO;have HO:=aA (ReOut.back HUw.out hO);obtain⟨_,_,_,_,_,_,_,rfl,_,_⟩:=hO;go_wp2;go_ret;rw[HW.out];exact HO.out
   . have HW:=aA (show gG cs pp s st = .ok [⟨0,(ii:Int),0,⟨#[]⟩⟩] by simp only[gG,HL.out,hk,hf,if_true,if_neg h9]);have hi9:(ii:Int)<=99:=by omega
     have hi0:(0:Int)<=(ii:Int):=by omega
     have n0:w5.cell? ⟨w.heap.size+1,0,none⟩=some (.int .i64 0):=HNz.out.cell 0;have n1:w5.cell? ⟨w.heap.size+1,1,none⟩=some (.int .i64 0):=HNz.out.cell 1;have n2:w5.cell? ⟨w.heap.size+1,2,none⟩=some (.int .i64 0):=HNz.out.cell 2;have n3:w5.cell? ⟨w.heap.size+1,3,none⟩=some (.string ⟨#[]⟩):=HNz.out.cell 3;have nl:=HNz.out.lt;have nf0:=HNz.out.free 0;have nf1:=HNz.out.free 1;have nf2:=HNz.out.free 2;have nf3:=HNz.out.free 3;go_wp2_with fail;obtain⟨w6,hw6⟩:∃ w6,w6=(((w5.setCell ⟨w.heap.size+1,0,none⟩ (.int .i64 (0))).setCell ⟨w.heap.size+1,1,none⟩ (.int .i64 ((ii:Int)))).setCell ⟨w.heap.size+1,2,none⟩ (.int .i64 (0))).setCell ⟨w.heap.size+1,3,none⟩ (.string ⟨#[]⟩):=⟨_,rfl⟩;have HNq:RowKit.Hid (BoxAt w6 (w.heap.size+1) 96 (sQ ⟨0,(ii:Int),0,⟨#[]⟩⟩)):=aA (by rw[hw6];exact(((HNz.out.set 0 _).set 1 _).set 2 _).set 3 _);have HUz:=aA (show Under w w6 by rw[hw6];exact nA (nA (nA (nA HUw.out (by omega) _ _) (by omega) _ _) (by omega) _ _) (by omega) _ _);rw[<- hw6];clear hw6 n0 n1 n2 n3 nl nf0 nf1 nf2 nf3 HNz s1' s2' sl';have HRy:=aA (HR.out.under HUz.out);have HNv:RowKit.Hid (ov.ownBlock≠some (w.heap.size+1)):=aA λe=>by have:=(xB HR.out.row e).2;omega
     have HNr:RowKit.Hid (rb≠w.heap.size+1):=aA λe=>by have:=HR.out.box.lt;omega
     go_wp2_with fail;rename_i K hK;refine kU (F:=pK rb (w.heap.size+1)) (by rfl) λJ=>?_
     refine wp_mono (fJA (x:=⟨0,(ii:Int),0,⟨#[]⟩⟩) HRy.out (HNq.out) HNv.out HNr.out ha J) ?_;rintro ex a' w9 ⟨rfl,⟨J',rfl⟩,ov',g1,g2,g3⟩;have HPd:=aA (And.intro g1 (And.intro g2 g3));clear g1 g2 g3;simp only[Exit.then];refine hK _ _ ?_;unfold pK;go_wp2;go_ret;rw[HW.out];exact⟨_,_,_,_,HPd.out.1,(Ch.of_under HUz.out).trans (C:=qG rb ov) (D:=qG rb ov) HPd.out.2.1 (λi _ h=>h),λb hb e=>HPd.out.2.2 b (by have:=HUz.out.size;omega) e,rfl,rfl⟩
 | none =>
   have HF:=aA hf
   cases hc:jK cs s
   all_goals
    obtain rfl:ix=(-1:Int):=by have:=HIx.out;rw[hf]at this;exact this
    have c0:=(HR.out.under HUw.out).box.cell 0;have cl:=(HR.out.under HUw.out).box.lt;have HCt:=aA (λw' (hU:Under w5 w')=>jQ s (HCs.out.under ((HR.out.und.trans HUw.out).trans hU)) hcn);rw[hc]at HCt;have ccd:=And.intro c0 s2';go_wp2_with fail;go_region_held3 (λw'=>w'.cell? ⟨rb,0,none⟩=some cv/\w'.cell? ⟨w.heap.size,2,none⟩=some (.string s))
      (first
        | exact ccd
        | go_keep)
      ((go_at_call 84;refine(HCt.out _ (by first|exact fA (Qu _)|exact Qu _)).mono ?_;rintro e w7 ⟨rfl,rfl⟩))
    rename_i K hK hHeld;clear hHeld ccd c0 cl;have HUw:=aA (HUw.out.trans (fA (Qu _)));have HSz:=aA (HSy.out.under (hUs));have HNz:=aA (HNz.out.under (fA (Qu _)));have s1':=HSz.out.cell 1;have s2':=HSz.out.cell 2;have sl':=HSz.out.lt;generalize w5.drew=w5 at *
   . have HW:=aA (show gG cs pp s st = .error (80,pp) by simp[gG,HL.out,hk,HF.out,hc]);have HWr:=aA (jG (HR.out.under HUw.out) pp 80);go_wp2_with fail;refine HWr.out.mono ?_;rintro e w6 hO;have HO:=aA (ReOut.back HUw.out hO);obtain⟨_,_,_,_,_,_,_,rfl,_,_⟩:=hO;go_wp2;go_ret;rw[HW.out];exact HO.out
   . have HW:=aA (show gG cs pp s st = .ok [⟨1,0,0,s⟩] by simp[gG,HL.out,hk,HF.out,hc]);have n0:w5.cell? ⟨w.heap.size+1,0,none⟩=some (.int .i64 0):=HNz.out.cell 0;have n1:w5.cell? ⟨w.heap.size+1,1,none⟩=some (.int .i64 0):=HNz.out.cell 1;have n2:w5.cell? ⟨w.heap.size+1,2,none⟩=some (.int .i64 0):=HNz.out.cell 2;have n3:w5.cell? ⟨w.heap.size+1,3,none⟩=some (.string ⟨#[]⟩):=HNz.out.cell 3;have nl:=HNz.out.lt;have nf0:=HNz.out.free 0;have nf1:=HNz.out.free 1;have nf2:=HNz.out.free 2;have nf3:=HNz.out.free 3;go_wp2_with fail;obtain⟨w6,hw6⟩:∃ w6,w6=(((w5.setCell ⟨w.heap.size+1,0,none⟩ (.int .i64 (1))).setCell ⟨w.heap.size+1,1,none⟩ (.int .i64 (0))).setCell ⟨w.heap.size+1,2,none⟩ (.int .i64 (0))).setCell ⟨w.heap.size+1,3,none⟩ (.string s):=⟨_,rfl⟩;have HNq:RowKit.Hid (BoxAt w6 (w.heap.size+1) 96 (sQ ⟨1,0,0,s⟩)):=aA (by rw[hw6];exact(((HNz.out.set 0 _).set 1 _).set 2 _).set 3 _);have HUz:=aA (show Under w w6 by rw[hw6];exact nA (nA (nA (nA HUw.out (by omega) _ _) (by omega) _ _) (by omega) _ _) (by omega) _ _);rw[<- hw6];clear hw6 n0 n1 n2 n3 nl nf0 nf1 nf2 nf3 HNz s1' s2' sl';have HRy:=aA (HR.out.under HUz.out);have HNv:RowKit.Hid (ov.ownBlock≠some (w.heap.size+1)):=aA λe=>by have:=(xB HR.out.row e).2;omega
     have HNr:RowKit.Hid (rb≠w.heap.size+1):=aA λe=>by have:=HR.out.box.lt;omega
     go_wp2_with fail;rename_i K hK;refine kU (F:=pK rb (w.heap.size+1)) (by rfl) λJ=>?_
     refine wp_mono (fJA (x:=⟨1,0,0,s⟩) HRy.out (HNq.out) HNv.out HNr.out ha J) ?_;rintro ex a' w9 ⟨rfl,⟨J',rfl⟩,ov',g1,g2,g3⟩;have HPd:=aA (And.intro g1 (And.intro g2 g3));clear g1 g2 g3;simp only[Exit.then];refine hK _ _ ?_;unfold pK;go_wp2;go_ret;rw[HW.out];exact⟨_,_,_,_,HPd.out.1,(Ch.of_under HUz.out).trans (C:=qG rb ov) (D:=qG rb ov) HPd.out.2.1 (λi _ h=>h),λb hb e=>HPd.out.2.2 b (by have:=HUz.out.size;omega) e,rfl,rfl⟩
end
def pM(L n:Nat)(c:UInt8):List UInt8:=if c=42 then List.replicate (n+1 - L) c else [c]
theorem oQA(l:List UInt8)(n:Nat):yB l n=l.flatMap (pM l.length n):=rfl
theorem wJA(l:List UInt8)(L n k:Nat)(c:UInt8)(hk:l[k]? = some c):(l.take (k+1)).flatMap (pM L n)=(l.take k).flatMap (pM L n)++pM L n c:=by
 obtain⟨h1,h2⟩:=Qo.1 hk;rw[Qj h1,List.flatMap_append,h2];simp
theorem zUA(L n:Nat)(c:UInt8):(pM L n c).length<=n+1:=by
 unfold pM
 split
 . rw[List.length_replicate];omega
 . simp
theorem zP(L n:Nat):∀ l:List UInt8,(l.flatMap (pM L n)).length<=l.length * (n+1)
  | []=>by simp
  | c :: l => by
    rw[List.flatMap_cons,Qc,Qk];have h1:=zUA L n c;have h2:=zP L n l;rw[Nat.add_mul];omega
def oM(l:List UInt8):List Value:=l.map λc=>.int .u8 (c.toNat:Int)
theorem hBA(a b:List UInt8):oM (a++b)=oM a++oM b:=List.map_append
theorem Tryz.infoU8:(Tryz.prog.info? 5).map (λi=>(i.zero,i.size,i.bytes))=some (some (.int .u8 0),1,1):=by kernel_rfl
theorem rXA{w:World}{base n:Nat}{e:TypeId}{g c:Nat}{l:List UInt8}(h:w.ownsRow base e 1 (.slice (some ⟨g,0,none⟩) n c) n (oM l)):Lib.Bytes w g 0 ⟨l.toArray⟩:=by
 intro i hi;have hi':i < l.length:=by simpa [ByteArray.size] using hi
 have:(oM l)[i]? = some (.int .u8 (l[i].toNat:Int)):=by unfold oM;rw[List.getElem?_map,Qa hi'];rfl
 rw[Nat.zero_add,rD h rfl this];rfl
def mBB(w0:World)(s:ByteArray)(n:Nat)(v i:Value)(wr:World):Prop :=
 ∃ k N:Nat,k<=s.size/\i = .int .i64 (k:Int)/\N=((s.data.toList.take k).flatMap (pM s.size n)).length/\wr.ownsRow w0.heap.size 5 1 v N (oM ((s.data.toList.take k).flatMap (pM s.size n)))/\Under w0 wr
def xBB(w0:World)(pre:List UInt8)(c:UInt8)(m:Int)(v i:Value)(wr:World):Prop :=
 ∃ j N:Nat,((j:Int)<=m∨j=0)/\i = .int .i64 (j:Int)/\N=(pre++List.replicate j c).length/\wr.ownsRow w0.heap.size 5 1 v N (oM (pre++List.replicate j c))/\Under w0 wr
section
variable {w0 : World}
theorem hHA(k0 n0 m0:Int)(x0 s:ByteArray)(n:Nat)(hs:s.size<=20)(hn:n<=100000) :
 Calls prog 81 #[.agg #[.int .i64 k0,.int .i64 n0,.int .i64 m0,.string x0,.string s],.int .i64 (n:Int)] w0 λe w=>e = .returned (.tuple #[.string ⟨(yB s.data.toList n).toArray⟩,.bool (decide ((yB s.data.toList n).length=n))])/\Under w0 w:=by
 obtain⟨i0,hi,hz0,hz1,hz2⟩:=info_parts Tryz.infoU8;have hsl:s.data.toList.length=s.size:=by rw[Array.length_toList];rfl
 have hB:=zA w0 #[.int .i64 k0,.int .i64 n0,.int .i64 m0,.string x0,.string s] 157;have hU0:=bA (Qu w0) (.cells #[.int .i64 k0,.int .i64 n0,.int .i64 m0,.string x0,.string s] 157);have hsz0:(w0.alloc (.cells #[.int .i64 k0,.int .i64 n0,.int .i64 m0,.string x0,.string s] 157)).heap.size=w0.heap.size+1:=by simp
 have HSp:RowKit.Hid (yB s.data.toList n=(s.data.toList.take s.size).flatMap (pM s.size n)):=aA (by rw[oQA,<- hsl,List.take_length]);generalize yB s.data.toList n=R at *;obtain⟨b0,hb0⟩:∃ b,b=w0.heap.size:=⟨_,rfl⟩;have HU0:=aA hU0;have HB:=aA hB;have HS0:=aA hsz0;have hn0:(0:Int)<=(n:Int):=by omega
 have hn9:(n:Int)<=100000:=by omega
 have hs9:(s.size:Int)<=20:=by omega
 have hs0:(0:Int)<=(s.size:Int):=by omega
 clear hU0 hB hsz0 hb0 b0;go_enter func81,ntmps81;go_wp2;obtain⟨W1,hW1⟩:∃ W,W=w0.alloc (.cells #[.int .i64 k0,.int .i64 n0,.int .i64 m0,.string x0,.string s] 157):=⟨_,rfl⟩;rw[<- hW1]at HU0 HB HS0;rw[<- hW1];clear hW1;go_loopw [6,12] (λv i wr=>mBB W1 s n v i wr) (λ_ i _=>s.size - (intOf i).toNat)
 case atStart=>exact⟨0,0,Nat.zero_le _,rfl,rfl,World.ownsRow_nil _ _ _ _,Qu _⟩
 case round =>
   obtain⟨k,N,hk,rfl,hN,hown,hU⟩:=hrel;have hBw:=HB.out.under hU;have b4:=hBw.cell 4;have blt:=hBw.lt;have HUr:=aA hU;have HO:=aA hown;have HN:=aA hN;clear hU hown hN;by_cases hlt:k < s.size
   . have hk':s.data.toList[k]? = some s[k]:=by rw[Qa (by omega)];rfl
     have HT:=aA (wJA s.data.toList s.size n k s[k] hk');have hNl:N<=20 * 100001:=by
      rw[HN.out];refine Ql (zP s.size n _) ?_;refine Nat.mul_le_mul ?_ (by omega);rw[List.length_take];omega
     obtain⟨pre,hpre⟩:∃ pre,pre=(s.data.toList.take k).flatMap (pM s.size n):=⟨_,rfl⟩;rw[<- hpre]at HT HO HN;clear hk' hpre
     cases hc:(((s[k]).toNat:Int)==42)
     . have HMy:RowKit.Hid (pM s.size n s[k]=List.replicate 1 s[k]):=aA (by
         have:s[k]≠42:=λe=>by rw[e]at hc;exact absurd hc (by decide)
         unfold pM;rw[if_neg this];rfl)
       go_wp2;go_loopw [6,27] (λv i wr=>xBB W1 pre s[k] 1 v i wr) (λ_ i _=>(1:Int).toNat - (intOf i).toNat)
       case atStart=>exact⟨0,N,.inr rfl,rfl,by rw[HN.out];simp,by simpa using HO.out,HUr.out⟩
       case round =>
         obtain⟨j,N2,hj,rfl,hN2,hown2,hU2⟩:=hrel;have hBw2:=HB.out.under hU2;have b4:=hBw2.cell 4;have blt:=hBw2.lt;have HU2:=aA hU2;have HO2:=aA hown2;have HN2:=aA hN2;clear hU2 hown2 hN2 hBw2;by_cases hjm:(j:Int) < (1:Int)
         . have hN2l:N2<=2200120:=by rw[HN2.out,Qc,<- HN.out,List.length_replicate];omega
           have hmx:N2+1<=maxLen:=by simp only[maxLen];omega
           have hby:(N2+1) * 1<=140737488355328:=by omega
           go_wp2_with (at_builtin;refine wpList_append_own_at _ rfl _ _ 169 rfl W1.heap.size 5 i0 _ 1 1 underlying169 hi hz0 hz1 hz2 rfl (by decide) _ _ _ rfl (HO2.out.alloc _) ⟨wr.heap.size,0,none⟩ 1 1 [.int .u8 (s[k].toNat:Int)] rfl rfl ?c1 ?c2 hmx hby ?c5 ?_)
           case c1 =>
             intro j u hj
             match j,hj with
             | 0,hj=>cases hj;simp[Addr.add]
           case c2=>intro u hu;simp at hu;subst hu;rfl
           case c5=>have:=HU2.out.size;simp;omega
           intro v' w' hown hgrow hnil hat;have HW:=aA hown;have HU3:=aA (eB (bA HU2.out _) hgrow λg e=>(xB HO2.out e).1);clear hown hgrow hnil hat;go_wp2;go_roundw
           case rel =>
             refine⟨j+1,N2+1,by omega,by go_num,?_,?_,HU3.out⟩
             . rw[HN2.out,List.replicate_succ'];simp[Nat.add_assoc]
             . have:=HW.out;rw[List.replicate_succ',<- List.append_assoc,hBA]
               simpa [oM] using this
           case measure=>simp[intOf];omega
         . go_wp2;go_roundw
           case rel =>
             have hj':pM s.size n s[k]=List.replicate j s[k]:=by
              rw[HMy.out];congr 1
              omega
             refine⟨k+1,N2,by omega,by go_num,?_,?_,HU2.out⟩
             . rw[HT.out,hj',HN2.out]
             . rw[HT.out,hj'];exact HO2.out
           case measure=>simp[intOf];omega
     . have HMy:RowKit.Hid (pM s.size n s[k]=List.replicate (n+1 - s.size) s[k]):=aA (by
         have:s[k]=42:=by
          have h2:(s[k]).toNat=42:=by have:=beq_iff_eq.1 hc;omega
          exact UInt8.toNat_inj.1 h2
         unfold pM;rw[if_pos this])
       go_wp2;go_loopw [6,27] (λv i wr=>xBB W1 pre s[k] ((n:Int) - (s.size:Int)+1) v i wr) (λ_ i _=>(((n:Int) - (s.size:Int)+1):Int).toNat - (intOf i).toNat)
       case atStart=>exact⟨0,N,.inr rfl,rfl,by rw[HN.out];simp,by simpa using HO.out,HUr.out⟩
       case round =>
         obtain⟨j,N2,hj,rfl,hN2,hown2,hU2⟩:=hrel;have hBw2:=HB.out.under hU2;have b4:=hBw2.cell 4;have blt:=hBw2.lt;have HU2:=aA hU2;have HO2:=aA hown2;have HN2:=aA hN2;clear hU2 hown2 hN2 hBw2;by_cases hjm:(j:Int) < (((n:Int) - (s.size:Int)+1):Int)
         . have hN2l:N2<=2200120:=by rw[HN2.out,Qc,<- HN.out,List.length_replicate];omega
           have hmx:N2+1<=maxLen:=by simp only[maxLen];omega
           have hby:(N2+1) * 1<=140737488355328:=by omega
           go_wp2_with (at_builtin;refine wpList_append_own_at _ rfl _ _ 169 rfl W1.heap.size 5 i0 _ 1 1 underlying169 hi hz0 hz1 hz2 rfl (by decide) _ _ _ rfl (HO2.out.alloc _) ⟨wr.heap.size,0,none⟩ 1 1 [.int .u8 (s[k].toNat:Int)] rfl rfl ?c1 ?c2 hmx hby ?c5 ?_)
           case c1 =>
             intro j u hj
             match j,hj with
             | 0,hj=>cases hj;simp[Addr.add]
           case c2=>intro u hu;simp at hu;subst hu;rfl
           case c5=>have:=HU2.out.size;simp;omega
           intro v' w' hown hgrow hnil hat;have HW:=aA hown;have HU3:=aA (eB (bA HU2.out _) hgrow λg e=>(xB HO2.out e).1);clear hown hgrow hnil hat;go_wp2;go_roundw
           case rel =>
             refine⟨j+1,N2+1,by omega,by go_num,?_,?_,HU3.out⟩
             . rw[HN2.out,List.replicate_succ'];simp[Nat.add_assoc]
             . have:=HW.out;rw[List.replicate_succ',<- List.append_assoc,hBA]
               simpa [oM] using this
           case measure=>simp[intOf];omega
         . go_wp2;go_roundw
           case rel =>
             have hj':pM s.size n s[k]=List.replicate j s[k]:=by
              rw[HMy.out];congr 1
              omega
             refine⟨k+1,N2,by omega,by go_num,?_,?_,HU2.out⟩
             . rw[HT.out,hj',HN2.out]
             . rw[HT.out,hj'];exact HO2.out
           case measure=>simp[intOf];omega
   . obtain rfl:k=s.size:=by omega
     rw[<- HSp.out]at HO HN;have hR:R.length=N:=HN.out.symm;have HRe:=aA (show(R.length=n)=((N:Int)=(n:Int)) by rw[hR];simp;omega);have hNl:N<=20 * 100001:=by
      rw[HN.out,HSp.out];refine Ql (zP s.size n _) ?_;refine Nat.mul_le_mul ?_ (by omega);rw[List.length_take];omega
     have hown:=HO.out;have hbs:∀ g c,u6 = .slice (some ⟨g,0,none⟩) N c->Lib.Bytes wr g 0 ⟨R.toArray⟩:=λg c e=>by subst e;exact rXA hown
     rcases hown.2 with⟨rfl,h0⟩|⟨g,c,cur,rfl,_,hg,h1,h2,_⟩
     . have hR0:R=[]:=List.eq_nil_of_length_eq_zero (by omega);have HR0:=aA hR0;subst h0;clear hR hbs hown;have hcv:=Lib.run_convert_nil_bytes (P:=prog) wr 169 9 5 0 underlying169 underlying5 underlying9;go_wp2;go_ret2;exact⟨by rw[HR0.out];simp;rw[Bool.eq_iff_iff];simp;omega,HU0.out.trans HUr.out⟩
     . have hsz:(⟨R.toArray⟩:ByteArray).size=N:=by rw[<- hR];simp[ByteArray.size]
       have hcv:=Lib.run_convert_whole (P:=prog) wr 169 5 9 underlying169 underlying5 underlying9 g 0 ⟨R.toArray⟩ (hbs g c rfl) c;rw[hsz]at hcv;clear hR hbs hown hsz hg;go_wp2;go_ret2;exact⟨by simp[HRe.out];rw[Bool.eq_iff_iff];simp,HU0.out.trans HUr.out⟩
end
abbrev Pow10 (w : World) : Prop := Lib.TabIs Tryz.prog w "internal/strconv.uint64pow10" .u64 Lib.pow10Tab
theorem vP{w:World}(k:Nat)(os:Array Obj):Under w (Go.Sort.grow (w.drewN k) os) :=
 ⟨rfl,rfl,by simp[Go.Sort.grow],λb hb=>by
   show(w.heap++os)[b]? = _
   rw[Array.getElem?_append_left hb]⟩
theorem gPow : Tryz.prog.globalNamed "internal/strconv.uint64pow10" = some 4 := by kernel_rfl
theorem Pow10.under{W w:World}(h:Pow10 W)(hU:Under W w):Pow10 w:=by
 unfold Pow10 Lib.TabIs World.var? at *;rw[gPow]at *;simp only[Option.bind_some]at *;have hlt:4 < W.heap.size:=by
  cases hb:W.heap[4]? with
  | none=>simp[hb]at h
  | some o=>exact(Qe.1 hb).1
 rw[hU.low _ hlt];exact h
def tZA(v:Value):Prop:=v = .nilIface∨∃ te pe,v = .iface te pe
structure StrcAt (w:World):Prop where
 es:∃ v,w.cell? ⟨0,0,none⟩=some v/\tZA v
 er:∃ v,w.cell? ⟨1,0,none⟩=some v/\tZA v
 pow:Pow10 w
theorem jZ{w:World}{a:Addr}{v:Value}(h:w.cell? a=some v):a.block < w.heap.size:=by
 unfold World.cell? at h
 cases hb:w.heap[a.block]? with
 | none=>simp[hb]at h
 | some o=>exact(Qe.1 hb).1
theorem StrcAt.under{W w:World}(h:StrcAt W)(hU:Under W w):StrcAt w:=by
 obtain⟨⟨v,h1,h2⟩,⟨u,h3,h4⟩,h5⟩:=h;exact⟨⟨v,(iA hU (jZ h1) 0).trans h1,h2⟩,⟨u,(iA hU (jZ h3) 0).trans h3,h4⟩,h5.under hU⟩
theorem z8(w:World)(t:TypeId)(s:ByteArray):Under w (Lib.bytesWorld w t s) :=
 ⟨rfl,rfl,by rw[Lib.bytesWorld_size];omega,λb hb=>Lib.bytesWorld_at_old _ _ _ _ hb⟩
theorem mEA(s:ByteArray)(hs:s.size<=281474976710656)(w:World)(hE:StrcAt w) :
 Calls prog 49 #[.string s] w λe w'=>(∃ v ev,e = .returned (.tuple #[.int .i64 v,ev])/\((ev = .nilIface/\Lib.atoiAll s.data.toList = .ok v)∨((∃ te pe,ev = .iface te pe)/\∀ v,Lib.atoiAll s.data.toList≠.ok v)))/\Under w w':=by
 obtain⟨⟨v1,h1,h2⟩,⟨v2,h3,h4⟩,_⟩:=hE;rcases h:Lib.atoiAll s.data.toList with v|_|_
 . skip
   refine(Tryz.strconv_Atoi_ok s (by omega) v h w).mono ?_;rintro e w' ⟨rfl,hw⟩;refine⟨⟨v,.nilIface,rfl,.inl ⟨rfl,rfl⟩⟩,?_⟩;rcases hw with rfl|⟨t,rfl⟩
   . exact Qu _
   . exact z8 ..
 . refine(Tryz.strconv_Atoi_syntax s hs (λv e=>by rw[h]at e;cases e) (λe=>by rw[h]at e;cases e) v1 w h1 h2).mono ?_;rintro e w' ⟨N,rfl,_,_,hB⟩;exact⟨⟨0,_,rfl,.inr ⟨⟨_,_,rfl⟩,λv e=>by cases e⟩⟩,qP hB⟩
 . refine(Tryz.strconv_Atoi_range s hs h v2 w h3 h4).mono ?_;rintro e w' ⟨N,rfl,_,_,hB⟩;exact⟨⟨_,_,rfl,.inr ⟨⟨_,_,rfl⟩,λv e=>by cases e⟩⟩,qP hB⟩
section
variable {w0 : World}
def pCB(w0:World)(R:Option Nat)(e:Ending)(w:World):Prop:=(∃ n:Int,e = .returned (.tuple #[.int .i64 n,.bool R.isSome])/\∀ k,R=some k->n=(k:Int))/\Under w0 w
theorem zR(s:ByteArray)(a b:Nat)(hb:b < 100)(hab:a<=b)(hs:s.size<=1000000)(hE:StrcAt w0):Calls prog 83 #[.string s,.int .i64 (a:Int),.int .i64 (b:Int)] w0 (pCB w0 (kW s a b)):=by
 have HA:=aA (mEA s (by omega) w0 hE);have HE:=aA hE;have hb0:(0:Int)<=(a:Int):=by omega
 have hb1:(b:Int) < 100:=by omega
 go_enter func83,ntmps83;go_wp2_with fail;refine HA.out.mono ?_;rintro e w1 ⟨⟨v,ev,rfl,hev⟩,hU1⟩;have HU1:=aA hU1;rcases hev with⟨rfl,hv⟩|⟨⟨te,pe,rfl⟩,hv⟩
 . obtain⟨hv1,hv2⟩:=Lib.atoiAll_bounds hv;have HN:=aA (b1A hv (a:=a) (b:=b) (by omega));have HI:=aA (Tryz.strconv_Itoa v hv1 hv2 w1 (HE.out.under hU1).pow);have hq0:(Lib.itoa v==s.toList)=decide (Lib.itoa v=s.data.toList):=by
    rw[ByteArray.toList_eq,Bool.eq_iff_iff];simp
   have HQ:=aA hq0;clear hv hU1 hq0;generalize kW s a b=R at *;generalize hL:Lib.itoa v=L at *;clear hL
   cases hq:(L==s.toList)
   . have h1:¬ L=s.data.toList:=by have:=HQ.out;rw[hq]at this;simpa using this.symm
     have HR:RowKit.Hid (R=none):=aA (by rw[HN.out,if_neg λh=>h1 h.1]);clear h1;go_wp2_with fail;refine HI.out.mono ?_;rintro e w2 ⟨rfl,kk,os,rfl⟩;have HU:=aA (vP (w:=w1) kk os);go_wp2;go_ret2;rw[HR.out];exact⟨⟨_,rfl,λk h=>by cases h⟩,HU1.out.trans HU.out⟩
   . have h1:L=s.data.toList:=by have:=HQ.out;rw[hq]at this;simpa using this.symm
     by_cases ha:(a:Int)<=v
     . by_cases hb2:v<=(b:Int)
       . have HR:RowKit.Hid (R=some v.toNat):=aA (by rw[HN.out,if_pos ⟨h1,ha,hb2⟩]);have HV:=aA (show(v.toNat:Int)=v by omega);clear h1;go_wp2_with fail;refine HI.out.mono ?_;rintro e w2 ⟨rfl,kk,os,rfl⟩;have HU:=aA (vP (w:=w1) kk os);go_wp2;go_ret2;rw[HR.out];exact⟨⟨_,rfl,λk h=>by cases h;exact HV.out.symm⟩,HU1.out.trans HU.out⟩
       . have HR:RowKit.Hid (R=none):=aA (by rw[HN.out,if_neg λh=>hb2 h.2.2]);clear h1;go_wp2_with fail;refine HI.out.mono ?_;rintro e w2 ⟨rfl,kk,os,rfl⟩;have HU:=aA (vP (w:=w1) kk os);go_wp2;go_ret2;rw[HR.out];exact⟨⟨v,by show Ending.returned (.tuple #[.int .i64 v,.bool (decide (v<=(b:Int)))])=_;rw[decide_eq_false (by omega)];rfl,λk h=>by cases h⟩,HU1.out.trans HU.out⟩
     . have HR:RowKit.Hid (R=none):=aA (by rw[HN.out,if_neg λh=>ha h.2.1]);clear h1;go_wp2_with fail;refine HI.out.mono ?_;rintro e w2 ⟨rfl,kk,os,rfl⟩;have HU:=aA (vP (w:=w1) kk os);go_wp2;go_ret2;rw[HR.out];exact⟨⟨_,rfl,λk h=>by cases h⟩,HU1.out.trans HU.out⟩
 . have HN:=aA (p6A hv a b);clear hv hU1;go_wp2;go_ret2;rw[HN.out];exact⟨⟨_,rfl,λk h=>by cases h⟩,HU1.out⟩
end
end Go.Proofs.YtpkaiodmbicjiaaGreatDoor
namespace Go.Proofs.YtpkaiodmbicjiaaGreatDoor
open Go.Proofs.Tryz
open Go.Conc Go.Lx Go.RowKit
section
variable {w0 : World} {b off n cap k : Nat}
theorem aY:∀(row:List Sx) (j:Nat) (u:Value),(mD row)[j]? = some u->∃ k x,row[k]? = some x/\((j=k * 3/\u = .int .i64 x.many)∨(j=k * 3+1/\u = .int .i64 x.pos)∨(j=k * 3+2/\u = .string x.word)):=by
 intro row
 induction row with
 | nil=>intro j u h;simp[mD]at h
 | cons x row ih =>
   intro j u h
   match j,h with
   | 0,h=>cases h;exact⟨0,x,rfl,.inl ⟨rfl,rfl⟩⟩
   | 1,h=>cases h;exact⟨0,x,rfl,.inr (.inl ⟨rfl,rfl⟩)⟩
   | 2,h=>cases h;exact⟨0,x,rfl,.inr (.inr ⟨rfl,rfl⟩)⟩
   | j + 3, h =>
     obtain⟨k,y,h1,h2⟩:=ih j u h;refine⟨k+1,y,h1,?_⟩;rcases h2 with⟨rfl,rfl⟩|⟨rfl,rfl⟩|⟨rfl,rfl⟩
     . exact .inl ⟨by omega,rfl⟩
     . exact .inr (.inl ⟨by omega,rfl⟩)
     . exact .inr (.inr ⟨by omega,rfl⟩)
theorem l7A{row:List Sx}(h:wDA w0 b off row){j:Nat}{u:Value}(hj:(mD row)[j]? = some u):w0.cell? ⟨b,off+j,none⟩=some u:=by
 obtain⟨k,x,h1,h2⟩:=aY row j u hj;obtain⟨c0,c1,c2⟩:=h k x h1;rcases h2 with⟨rfl,rfl⟩|⟨rfl,rfl⟩|⟨rfl,rfl⟩
 . exact c0
 . exact c1
 . exact c2
theorem v9A{row:List Sx}{u:Value}(h:u∈mD row):u.oneCell'=true:=by
 obtain⟨j,hj⟩:=List.getElem?_of_mem h;obtain⟨k,x,_,h2⟩:=aY row j u hj;rcases h2 with⟨_,rfl⟩|⟨_,rfl⟩|⟨_,rfl⟩<;>rfl
theorem vXA(row:List Sx)(hne:row≠[])(hn:row.length<=1000000)(hb0:b < w0.heap.size)(ht:wDA w0 b off row) :
 Calls prog 23 #[.slice (some ⟨b,off,none⟩) row.length cap] w0 λe w'=>∃ v,e = .returned v/\w'.ownsRow w0.heap.size 28 3 v row.length (mD row)/\Under w0 w':=by
 obtain⟨i0,hi,hz0,hz1,hz2⟩:=info_parts Tryz.info28;have hmx:0+row.length<=maxLen:=by simp only[maxLen];omega
 have hby:(0+row.length) * 32<=140737488355328:=by omega
 have HT:=aA ht;clear ht;have eqn:=Lib.run_eql_slice_nil (P:=prog) w0 23 28 (some ⟨b,off,none⟩) row.length cap 0 0 underlying23;go_enter func23,ntmps23;go_wp2_with (at_builtin;refine wpList_append_own_at _ rfl _ _ 23 rfl w0.heap.size 28 i0 _ 3 32 underlying23 hi hz0 hz1 hz2 rfl (by decide) _ _ _ rfl (xM w0 _ _ _ (Qd _)) ⟨b,off,none⟩ row.length cap (mD row) rfl (uH row) ?c1 (λu hu=>v9A hu) hmx hby ?c5 ?_)
 case c1 =>
   intro j u hj;rw[tN];exact(iA (W:=w0) (bA ⟨rfl,rfl,Qd _,λ_ _=>rfl⟩ _) hb0 _).trans (l7A HT.out hj)
 case c5=>simp
 intro v' w1 hown hgrow hnil hat;have HW:=aA hown;have HU2:=aA (eB (W:=w0) (bA ⟨rfl,rfl,Qd _,λ_ _=>rfl⟩ _) hgrow λg e=>by cases e;exact Qd _);clear hown hgrow hnil hat;go_wp2;go_ret;exact⟨v',rfl,HW.out,HU2.out⟩
def SxOwns(w:World)(base:Nat):List Value->List (List Sx)->Prop
  | [],[]=>True
  | v::vs,l::ls=>w.ownsRow base 28 3 v l.length (mD l)/\SxOwns w base vs ls
  | _,_=>False
theorem SxOwns.app{w:World}{base:Nat}:∀ {vs:List Value} {ls:List (List Sx)} {v:Value} {l:List Sx},SxOwns w base vs ls->w.ownsRow base 28 3 v l.length (mD l)->SxOwns w base (vs++[v]) (ls++[l])
  | [],[],_,_,_,h=>⟨h,trivial⟩
  | _::_,_::_,_,_,h,h'=>⟨h.1,SxOwns.app h.2 h'⟩
  | [],_::_,_,_,h,_=>h.elim
  | _::_,[],_,_,h,_=>h.elim
theorem SxOwns.map{w w':World}{base base':Nat}:∀ {vs:List Value} {ls:List (List Sx)},SxOwns w base vs ls->(∀ v n xs,w.ownsRow base 28 3 v n xs->w'.ownsRow base' 28 3 v n xs)->SxOwns w' base' vs ls
  | [],[],_,_=>trivial
  | _::_,_::_,h,h'=>⟨h' _ _ _ h.1,SxOwns.map h.2 h'⟩
  | [],_::_,h,_=>h.elim
  | _::_,[],h,_=>h.elim
theorem SxOwns.at{w:World}{base:Nat}:∀ {vs:List Value} {ls:List (List Sx)},SxOwns w base vs ls->∀ {i:Nat} {l:List Sx},ls[i]? = some l->∃ v,vs[i]? = some v/\w.ownsRow base 28 3 v l.length (mD l)
  | [],[],_,_,_,hi=>by simp at hi
  | v::_,_::_,h,0,_,hi=>by cases hi;exact⟨v,rfl,h.1⟩
  | _ :: _, _ :: _, h, i + 1, _, hi => by
    obtain⟨v,h1,h2⟩:=SxOwns.at h.2 (i:=i) hi;exact⟨v,h1,h2⟩
  | [],_::_,h,_,_,_=>h.elim
  | _::_,[],h,_,_,_=>h.elim
structure IH (w0:World) (va:Value) (bs:List Nat) (vo:Value) (ls:List (List Sx)) (w:World):Prop where
 at_:w.ownsRow w0.heap.size 3 1 va bs.length (yH bs)
 out:∃ vs,w.ownsRow w0.heap.size 23 1 vo ls.length vs/\SxOwns w w0.heap.size vs ls
 low:Under w0 w
theorem Tryz.info23:(Tryz.prog.info? 23).map (λi=>(i.zero,i.size,i.bytes))=some (some (.slice none 0 0),1,24):=by kernel_rfl
noncomputable def qQA:Code:=f13.body.getD .skip
noncomputable def bQA:Code:=aB (jA (jA (jA (jA qQA))))
noncomputable def itRound:Code:=nC (nC (jA bQA))
def mM(l va:Value)(m k:Nat)(vo:Value)(J:Nat->Value):Array Value :=
 #[l, J 1, J 2, J 3, va, J 5, vo, J 7, J 8, J 9, J 10, J 11, J 12, J 13, J 14, J 15, J 16, .int .i64 (m : Int), .int .i64 (k : Int), J 19, J 20, J 21, J 22, J 23, J 24, J 25, J 26, J 27, J 28, J 29, J 30, J 31, J 32, J 33, J 34, J 35, J 36, J 37]
def y3A(w0:World)(l va:Value)(m k:Nat)(bs:List Nat)(ls:List (List Sx))(a':Act)(w':World):Prop :=
 ∃ vo J,a'=⟨mM l va m k vo J,[]⟩/\IH w0 va bs vo ls w'
def fBB(l va:Value)(m:Nat)(vo:Value)(w:World)(e:Exit)(a':Act)(w':World):Prop:=e = .exit 0/\∃ J,a'=⟨mM l va m m vo J,[]⟩/\w'=w
theorem e7A{l va vo:Value}{m:Nat}(J:Nat->Value)(w:World) :
 itRound.wp prog (Exit.then (λ_ _=>False) (fBB l va m vo w)) ⟨mM l va m m vo J,[]⟩ w:=by
 unfold itRound bQA qQA;simp only[f13,Qf,aB,jA,nC];unfold mM;go_wp2;exact⟨rfl,bB (F:=mM l va m m vo) (by rfl) rfl⟩
theorem l8(row:List Sx){a c:Nat}(hc:c<=row.length):(piece row a c).length=c - a:=by
 unfold piece;rw[List.length_take,List.length_drop];omega
theorem wMA{row:List Sx}{a c:Nat}(h:wDA w0 b off row):wDA w0 b (off+a * 3) (piece row a c):=by
 intro k x hk;unfold piece at hk;have:row[a+k]? = some x:=by
  rw[List.getElem?_take]at hk
  split at hk
  . rw[List.getElem?_drop]at hk;exact hk
  . cases hk
 have:=h (a+k) x this;rw[Nat.add_mul]at this
 simpa [Nat.add_assoc] using this
theorem y9A{row:List Sx}{bs:List Nat}{va vo:Value}{ls:List (List Sx)}{a c:Nat}(hk:k+1 < bs.length)(hbs:bs.length<=1000001)(ha:bs[k]? = some a)(hc:bs[k+1]? = some c)(hac:a < c)(hcn:c<=row.length)(hn:row.length<=1000000)(hcap:row.length<=cap)(hls:ls.length=k)(J:Nat->Value)(w:World)(hP:IH w0 va bs vo ls w)
    (hb0:b < w0.heap.size) (ht:wDA w0 b off row) :
    itRound.wp prog (Exit.then (y3A w0 (.slice (some ⟨b,off,none⟩) row.length cap) va (bs.length - 1) (k+1) bs (ls++[piece row a c])) (λ_ _ _=>False)) ⟨mM (.slice (some ⟨b,off,none⟩) row.length cap) va (bs.length - 1) k vo J,[]⟩ w:=by
  have hb:=Qb hb0 hP.low.size;obtain⟨i0,hi,hz0,hz1,hz2⟩:=info_parts Tryz.info23;obtain⟨m,hm⟩:∃ m,bs.length=m+1:=⟨bs.length - 1,by omega⟩;obtain⟨vs,ho,hel⟩:=hP.out;obtain⟨ga,gac,hva,hga,hgab,hgal,_,_⟩:=yE hP.at_ (by omega);have hne:=own_ne ho hP.at_ (by decide);rw[hm]at hva;subst hva;have ca:=rD hP.at_ hga (sM ha);have cc:=rD hP.at_ hga (sM hc);have hat0:=hP.at_;have hU:=hP.low;rw[hm]at hk hbs ⊢;rw[Nat.add_sub_cancel];clear hP;have hin:(k:Int) < m:=by omega
  have hk0:(0:Int)<=k:=Int.natCast_nonneg _;have ix1:(k:Int) < (m:Int)+1:=by omega
  have ix2:(k:Int)+1 < (m:Int)+1:=by omega
  have ix3:(0:Int)<=(k:Int)+1:=by omega
  have wr:IntKind.i64.wrap ((k:Int)+1)=(k:Int)+1:=by rw[IntKind.wrap_i64];omega
  have a0:(0:Int)<=a:=Int.natCast_nonneg _;have a1:(a:Int)<=c:=by omega
  have a2:(c:Int)<=cap:=by omega
  have hmx:k+1<=maxLen:=by simp only[maxLen];omega
  have hby:(k+1) * 24<=140737488355328:=by omega
  have HO:=aA ho;have HE:=aA hel;have HA:=aA hat0;have HU:=aA hU;have HT:=aA ht;clear ho hel hat0 hU ht;have hca:¬ cap=a:=by omega
  have hpl:(piece row a c).length=c - a:=l8 row hcn;have HC0:Calls prog 23 #[.slice (some ⟨b,off+a * 3,none⟩) (c - a) (cap - a)] w.drew λe w1=>∃ g1 c1,e = .returned (.slice (some ⟨g1,0,none⟩) (c - a) c1)/\w1.ownsRow w0.heap.size 28 3 (.slice (some ⟨g1,0,none⟩) (c - a) c1) (c - a) (mD (piece row a c))/\Under w w1:=by
   have:=vXA (w0:=w.drew) (b:=b) (off:=off+a * 3) (cap:=cap - a) (piece row a c) (λe=>by rw[e]at hpl;simp at hpl;omega) (by omega) hb (wMA λk x hk=>by
     have:=HT.out k x hk;rw[<- iA HU.out hb0,<- iA HU.out hb0,<- iA HU.out hb0]at this;exact this)
   rw[hpl]at this;refine this.mono ?_;rintro e w1 ⟨v,rfl,h1,h2⟩;obtain⟨g1,c1,rfl,_⟩:=yE h1 (by omega);exact⟨g1,c1,rfl,uD h1 HU.out.size,⟨h2.os,h2.output,h2.size,h2.low⟩⟩
  have HC:=aA HC0;clear HC0;have hnx:some ga≠vo.ownBlock:=by
   rcases hne with e|e
   . rw[e];simp
   . exact λe'=>e (e'.symm)
  subst hls;clear hpl hne ca cc;unfold itRound bQA qQA;simp only[f13,Qf,aB,jA,nC];unfold mM;have ca:=rD HA.out hga (sM ha);have cc:=rD HA.out hga (sM hc);go_wp2_with fail;go_region_held3 (λw'=>w'.cell? ⟨ga,ls.length,none⟩=some (.int .i64 (a:Int))/\w'.cell? ⟨ga,ls.length+1,none⟩=some (.int .i64 (c:Int)))
    (first
      | go_keep
      | (go_split_ands
         refine⟨?_,?_⟩
         . (rw[hgrow.cell_far _ (by have:=hU1.size;simp;omega) hnx];assumption)
         . (rw[hgrow.cell_far _ (by have:=hU1.size;simp;omega) hnx];assumption))
      | (refine ⟨?_, ?_⟩
         . (rw[iA hU1 hgal];assumption)
         . (rw[iA hU1 hgal];assumption)))
    (first
      | (go_simp;go_at_call 23;refine HC.out.mono ?_;rintro e w1 ⟨g1,c1,rfl,hown1,hU1⟩;have HU1:=aA hU1;have HW1:=aA hown1)
      | (refine step_append_lies _ (by rfl) _ _ _ (by rfl) w0.heap.size 23 i0 _ 1 24 underlying48 hi hz0 hz1 hz2 rfl (by omega) vo ls.length vs (by rfl) ((uA HO.out hU1).alloc _) ⟨w1.heap.size,0,none⟩ 1 1 [.slice (some ⟨g1,0,none⟩) (c - a) c1] (by rfl) (by rfl) (World.news_of_block (cs:=#[.slice (some ⟨g1,0,none⟩) (c - a) c1]) (t:=23) (fr:=(0,0)) (heap_alloc_new w1 _)) (by simp[Value.oneCell']) (by omega) hmx hby (by have:=HU1.out.size;have:=HU.out.size;simp;omega) (w1.heap.size+1) (by simp) ?_;intro gg cc' w2 hown2 hgrow hat2 hlt2))
  have hpl:(piece row a c).length=c - a:=l8 row hcn;have HP2:IH w0 (.slice (some ⟨ga,0,none⟩) (m+1) gac) bs (.slice (some ⟨gg,0,none⟩) (ls.length+1) cc') (ls++[piece row a c]) w2:=by
   refine⟨rC ((uA HA.out hU1).alloc _) hgrow (.inr (by rw[hga];exact hnx)),⟨_,by rw[Qc];exact hown2,?_⟩,eB (bA (HU.out.trans hU1) _) hgrow λg e=>(xB HO.out e).1⟩;refine SxOwns.app (HE.out.map λv n xs h=>rC ((uA h hU1).alloc _) hgrow (own_ne h HO.out (by decide))) ?_;rw[hpl];exact rC (hown1.alloc _) hgrow (own_ne hown1 (uA HO.out hU1) (by decide))
  have HP3:=aA HP2;clear hown2 hgrow hat2 hlt2 hown1 hU1 HP2 hpl;go_wp2;exact⟨_,bB (F:=mM _ _ m (ls.length+1) _) (by rfl) HP3.out⟩
end
section
variable {w0 : World} {b off n cap k : Nat}
theorem nWA(row:List Sx)(st:List Nat)(n:Nat){k:Nat}(hk:k < st.length){a c:Nat}(ha:(st++[n])[k]? = some a)(hc:(st++[n])[k+1]? = some c):(pieces row st n)[k]? = some (piece row a c):=by
 unfold pieces;rw[List.getElem?_map,List.getElem?_range hk];simp only[Option.map_some,List.getD_eq_getElem?_getD,ha,hc,Qf]
theorem nAB{st:List Nat}{n:Nat}(h:Inc st n){k a c:Nat}(ha:(st++[n])[k]? = some a)(hc:(st++[n])[k+1]? = some c):a < c/\c<=n:=by
 unfold Inc at h;obtain⟨h1,e1⟩:=Qo.1 ha;obtain⟨h2,e2⟩:=Qo.1 hc;refine⟨by rw[<- e1,<- e2];exact List.pairwise_iff_getElem.1 h k (k+1) h1 h2 (by omega),?_⟩;have hl:(st++[n]).length=st.length+1:=by simp
 by_cases hk:k+1=st.length
 . rw[<- e2];have:(st++[n])[k+1]=n:=by simp[hk]
   omega
 . have:=List.pairwise_iff_getElem.1 h (k+1) st.length h2 (by omega) (by omega);have e3:(st++[n])[st.length]'(by omega)=n:=by simp
   rw[e3]at this;omega
def II(w0:World)(l va:Value)(row:List Sx)(st:List Nat)(m:Nat)(a:Act)(w:World):Prop :=
 ∃ k,m+k=st.length/\y3A w0 l va st.length k (st++[row.length]) ((pieces row st row.length).take k) a w
def mDB(w0:World)(l va:Value)(row:List Sx)(st:List Nat)(e:Exit)(a:Act)(w:World):Prop :=
 e = .exit 0/\y3A w0 l va st.length st.length (st++[row.length]) (pieces row st row.length) a w
theorem oXA(row:List Sx)(st:List Nat){p:Option Addr}{va:Value}(hn:row.length<=1000000)(hcap:row.length<=cap)(hp:SxArg w0 p row)(hst:st.length<=row.length)(hinc:Inc st row.length)(m:Nat)(a:Act)(w:World)
    (h0:II w0 (.slice p row.length cap) va row st m a w) :
    (Code.loop itRound).wp prog (mDB w0 (.slice p row.length cap) va row st) a w:=by
  refine wp_loop_ghost _ m h0 ?_;clear h0;rintro m a w ⟨k,hmk,vo,J,rfl,hi⟩;by_cases hkn:k=st.length
  . subst hkn;refine wp_mono (e7A J w) ?_;rintro e a' w' h
    cases e with
    | normal=>exact h.elim
    | _ =>
      obtain⟨h1,J',rfl,rfl⟩:=h;rw[List.take_of_length_le (by rw[xO];exact Qd _)]at hi;exact⟨h1,vo,J',rfl,hi⟩
  have hlt:k < st.length:=by omega
  obtain⟨b,off,rfl,hb0,ht⟩:=hp (λe=>by rw[e,List.length_nil]at hst;omega);have hbl:(st++[row.length]).length=st.length+1:=by simp
  obtain⟨x,hx⟩:∃ x,(st++[row.length])[k]? = some x:=⟨_,Qa (by omega)⟩;obtain⟨y,hy⟩:∃ y,(st++[row.length])[k+1]? = some y:=⟨_,Qa (by omega)⟩;obtain⟨h1,h2⟩:=nAB hinc hx hy;have:=y9A (cap:=cap) (w0:=w0) (row:=row) (va:=va) (vo:=vo) (ls:=(pieces row st row.length).take k) (by omega) (by omega) hx hy h1 h2 hn hcap (by rw[List.length_take,xO];omega) J w hi hb0 ht;rw[hbl,Nat.add_sub_cancel]at this;refine wp_mono this ?_;rintro e a' w' h
  cases e with
  | normal =>
    refine⟨m - 1,by omega,k+1,by omega,?_⟩;have hpl:k < (pieces row st row.length).length:=by rw[xO];exact hlt
    have hpk:=nWA row st row.length hlt hx hy;rw[Qa hpl]at hpk;rw[Qj hpl,Qt hpk];exact h
  | _=>exact h.elim
def xTA(w0:World)(R:Option (List (List Sx)))(e:Ending)(w':World):Prop :=
 Under w0 w'/\match R with
  | some ls=>∃ vo vs,e = .returned (.tuple #[vo,.bool true])/\w'.ownsRow w0.heap.size 23 1 vo ls.length vs/\SxOwns w' w0.heap.size vs ls
  | none=>e = .returned (.tuple #[.slice none 0 0,.bool false])
theorem sSA:∀(l:List Sx) (i:Nat) (st s:List Nat),jC l i st=some s->s.length<=st.length+l.length:=by
 intro l
 induction l with
 | nil=>intro i st s h;cases h;simp
 | cons x l ih =>
   intro i st s h;simp only[jC]at h
   split at h
   . have:=ih _ _ _ h;have e:(bJ x i st).length<=st.length+1:=by unfold bJ;simp
     simp only[Qk];omega
   . cases h
theorem oQ(row:List Sx){p:Option Addr}(hn:row.length<=1000000)(hcap:row.length<=cap)(hp:SxArg w0 p row) :
 Calls prog 13 #[.slice p row.length cap] w0 (xTA w0 (qC row)):=by
 have C1:=aA (gX (w0:=w0) (cap:=cap) row hn hp);have HL:=aA (λst va hst hinc m a w h=>oXA (w0:=w0) (cap:=cap) (va:=va) row st hn hcap hp hst hinc m a w h);have HI:=aA (λst h=>q9A row 0 [] st (t4A 0) h);have HN:=aA (λst h=>sSA row 0 [] st h);unfold qC;generalize jC row 0 []=R at *;clear hp;go_enter func13,ntmps13;go_wp2_with fail;refine C1.out.mono ?_;rintro e w1 ⟨hU1,hR1⟩
 cases R with
 | none =>
   subst hR1;have HU1:=aA hU1;clear hU1;go_wp2;go_ret2;exact⟨HU1.out,rfl⟩
 | some st =>
   obtain⟨va,rfl,hown⟩:=hR1;have hst:=HN.out st rfl;simp only[List.length_nil,Nat.zero_add]at hst;have hinc:=HI.out st rfl;rw[Nat.zero_add]at hinc;obtain⟨g,gc,rfl,hg,hgb,hgl,_,_⟩:=yE hown (by omega);have HL2:=aA (HL.out st (.slice (some ⟨g,0,none⟩) (st.length+1) gc) hst hinc);have HO:=aA hown;have HU1:=aA hU1;clear hU1 hown hinc HL HI HN C1;go_wp2;rename_i K hK;refine wp_mono (HL2.out st.length _ _ ⟨0,rfl,.slice none 0 0,_,fB (F:=mM _ _ _ 0 _) (by rfl),⟨by simpa using HO.out,⟨[],eKA _ _ _ _,trivial⟩,HU1.out⟩⟩) ?_;rintro e a' w' ⟨rfl,vo,J,rfl,hi⟩;simp only[Exit.inBlock,if_pos,Exit.then];refine hK _ _ ?_;have HH:=aA hi;clear hi;unfold mM;go_wp2;go_ret2;obtain⟨vs,h1,h2⟩:=HH.out.out;exact⟨HH.out.low,vo,vs,rfl,h1,h2⟩
def RowsArg(w:World)(p:Option Addr)(ls:List (List Sx)):Prop:=ls≠[]->∃ b off,p=some ⟨b,off,none⟩/\b < w.heap.size/\∀ i l,ls[i]? = some l->∃ q c,w.cell? ⟨b,off+i,none⟩=some (.slice q l.length c)/\l.length<=c/\SxArg w q l
theorem RowsArg.under{a b:World}{p:Option Addr}{l:List (List Sx)}(h:RowsArg a p l)(hU:Under a b):RowsArg b p l:=by
 intro hne;obtain⟨bl,off,rfl,hb,ht⟩:=h hne;refine⟨bl,off,rfl,Qb hb hU.size,λk t hk=>?_⟩;obtain⟨q,c,h1,h2,h3⟩:=ht k t hk;exact⟨q,c,by rw[iA hU hb];exact h1,h2,h3.under hU⟩
theorem cZ{w:World}{base:Nat}{e:TypeId}{l:Value}{row:List Sx}(h:w.ownsRow base e 3 l row.length (mD row)):∃ p cap,l = .slice p row.length cap/\row.length<=cap/\SxArg w p row:=by
 obtain⟨p,cap,rfl,h1⟩:=cAB h;refine⟨p,cap,rfl,?_,h1⟩;rcases h.2 with⟨e,h0⟩|⟨g,c,cur,e,_,_,h2,_⟩
 . rw[h0];exact Nat.zero_le _
 . cases e;exact h2
theorem jT{w:World}{base:Nat}{e:TypeId}{vo:Value}{vs:List Value}{ls:List (List Sx)}(h:w.ownsRow base e 1 vo ls.length vs)(h':SxOwns w base vs ls):∃ p cap,vo = .slice p ls.length cap/\RowsArg w p ls:=by
 rcases h.2 with⟨rfl,h0⟩|⟨g,cap,cur,rfl,hb,hg,rest⟩
 . refine⟨none,0,by rw[h0],λhne=>?_⟩;exact absurd (List.length_eq_zero_iff.1 h0) hne
 . refine⟨_,cap,rfl,λ_=>⟨g,0,rfl,(Qe.1 hg).1,λk t ht=>?_⟩⟩;obtain⟨v,h1,h2⟩:=h'.at ht;obtain⟨q,c,rfl,h3,h4⟩:=cZ h2;rw[Nat.zero_add];exact⟨q,c,rD h rfl h1,h3,h4⟩
end
section
variable {w0 : World} {b off n cap k : Nat}
theorem iSA(init:List Sx)(x:Sx)(hn:init.length+1<=1000000)(hcap:init.length+1<=cap)(hb0:b < w0.heap.size)(ht:wDA w0 b off (init++[x])) :
 Calls prog 25 #[.slice (some ⟨b,off,none⟩) (init.length+1) cap] w0 (xTA w0 (yG (init++[x]))):=by
 have hl:(init++[x]).length=init.length+1:=by simp
 have C1:=gX (w0:=w0) (cap:=cap) (p:=some ⟨b,off,none⟩) (init++[x]) (by omega) (λ_=>⟨b,off,rfl,hb0,ht⟩);rw[hl]at C1;have C1:=aA C1;have C2:=aA (λw1 (hU1:Under w0 w1)=>oQ (w0:=w1) (cap:=cap) (p:=some ⟨b,off,none⟩) init (by omega) (by omega) (SxArg.under (a:=w0) (λ_=>⟨b,off,rfl,hb0,λk y hk=>ht k y (by rw[List.getElem?_append_left (Qo.1 hk).1];exact hk)⟩) hU1));have c2:=(ht init.length x (by simp)).2.2;have N0:jC (init++[x]) 0 []=none->yG (init++[x])=none:=by
  intro h;rw[aH,h]
 have N1:∀ st,jC (init++[x]) 0 []=some st->st.length≠1->yG (init++[x])=none:=by
  intro st h hs;rw[aH,h]
  match st,hs with
  | [],_=>rfl
  | [_],h=>exact absurd rfl h
  | _::_::_,_=>rfl
 have N2:∀ st,jC (init++[x]) 0 []=some st->st.length=1->yG (init++[x])=if x.word.size=0 then qC init else none:=by
  intro st h hs;rw[aH,h]
  match st,hs with
  | [_],_=>rfl
 have N0:=aA N0;have N1:=aA N1;have N2:=aA N2;clear ht hl;generalize yG (init++[x])=PR at *;generalize jC (init++[x]) 0 []=R at *;have a1:(init.length:Int)<=cap:=by omega
 have a2:(init.length:Int) < (init.length:Int)+1:=by omega
 have a3:(0:Int)<=init.length:=by omega
 have a4:(init.length:Int)+1<=1000000:=by omega
 obtain⟨xm,xp,xw⟩:=x;simp only at c2 N2;go_enter func25,ntmps25;go_wp2_with fail;refine C1.out.mono ?_;rintro e w1 ⟨hU1,hR1⟩;rw[<- iA hU1 hb0]at c2
 cases R with
 | none =>
   subst hR1;have HU1:=aA hU1;have N0':=aA (N0.out rfl);clear hU1 N0 N1 N2;go_wp2;go_ret2;rw[N0'.out];exact⟨HU1.out,rfl⟩
 | some st =>
   obtain⟨va,rfl,hown⟩:=hR1;obtain⟨g,gc,rfl,hg,hgb,hgl,_,_⟩:=yE hown (by omega);have HU1:=aA hU1;clear hU1 hown hg hgb hgl;by_cases hs:st.length=1
   . have N2':=aA (N2.out st rfl hs);clear N0 N1 N2 C1;rw[hs];clear hs;by_cases hB:xw.size=0
     . have e0:xw=⟨#[]⟩:=ByteArray.ext (Array.eq_empty_of_size_eq_zero hB);subst e0;clear hB;go_wp2_with fail;refine(C2.out w1 HU1.out).mono ?_;rintro e w2 ⟨hU2,hR2⟩;have hPR:=N2'.out;simp only[show(⟨#[]⟩:ByteArray).size=0 from rfl,if_true]at hPR;subst hPR;generalize qC init=R2 at *
       cases R2 with
       | none =>
         subst hR2;have HU2:=aA hU2;clear hU2;go_wp2;go_ret2;exact⟨HU1.out.trans HU2.out,rfl⟩
       | some ls =>
         obtain⟨vo,vs,rfl,h1,h2⟩:=hR2;have HU2:=aA hU2;have H1:=aA h1;have H2:=aA h2;clear hU2 h1 h2;go_wp2;go_ret2;exact⟨HU1.out.trans HU2.out,vo,vs,rfl,uD H1.out HU1.out.size,H2.out.map λv n xs h=>uD h HU1.out.size⟩
     . obtain⟨e1,e2⟩:=nJ hB;have hPR:=N2'.out;rw[if_neg hB]at hPR;subst hPR;clear hB N2';go_wp2;go_ret2;exact⟨HU1.out,rfl⟩
   . have e1:((st.length:Int)+1 != 2)=true:=by simp;omega
     have N1':=aA (N1.out st rfl hs);clear N0 N1 N2 C1 C2 hs;go_wp2;go_ret2;rw[N1'.out];exact⟨HU1.out,rfl⟩
theorem bXA{p:Option Addr}:Calls prog 25 #[.slice p 0 cap] w0 (xTA w0 none):=by
 have C1:=aA (gX (w0:=w0) (cap:=cap) (p:=p) [] (by simp) (λh=>absurd rfl h));have z:(([]:List Sx).length:Nat)=0:=rfl;go_enter func25,ntmps25;go_wp2_with fail;refine C1.out.mono ?_;rintro e w1 ⟨hU1,va,rfl,hown⟩;obtain⟨g,gc,rfl,hg,hgb,hgl,_,_⟩:=yE hown (by simp);have HU1:=aA hU1;clear hU1 hown hg hgb hgl;go_wp2;go_ret2;exact⟨HU1.out,rfl⟩
theorem rV(row:List Sx){p:Option Addr}(hn:row.length<=1000000)(hcap:row.length<=cap)(hp:SxArg w0 p row) :
 Calls prog 25 #[.slice p row.length cap] w0 (xTA w0 (yG row)):=by
 by_cases hne:row=[]
 . subst hne;exact bXA
 obtain⟨init,x,rfl⟩:∃ init x,row=init++[x]:=⟨row.dropLast,row.getLast hne,(List.dropLast_concat_getLast hne).symm⟩;obtain⟨b,off,rfl,hb0,ht⟩:=hp hne;rw[Qc]at hn hcap ⊢;exact iSA init x hn hcap hb0 ht
end
end Go.Proofs.YtpkaiodmbicjiaaGreatDoor
namespace Go.Proofs.YtpkaiodmbicjiaaGreatDoor
open Go.Proofs.Tryz
open Go.Lx Go.RowKit
theorem Tryz.infoStrZ:(Tryz.prog.info? 9).map (λi=>(i.zero,i.size,i.bytes))=some (some (.string ⟨#[]⟩),1,16):=by kernel_rfl
section
variable {w0 : World}
theorem bJA(n:Nat)(hn:n<=1000000):Calls prog 102 #[.slice none 0 0,.int .i64 (n:Int)] w0 λe w=>∃ v,e = .returned v/\w.ownsRow w0.heap.size 9 1 v 0 []/\Under w0 w:=by
 obtain⟨i0,hi,hz0,hz1,hz2⟩:=info_parts Tryz.infoStrZ;by_cases h0:n=0
 . subst h0;go_enter func102,ntmps102;go_wp2;go_ret;exact⟨_,rfl,World.ownsRow_nil _ _ _ _,Qu _⟩
 . have h1:(0:Int) < n:=by omega
   have h2:(n:Int)<=1000000:=by omega
   have h3:n * i0.bytes<=140737488355328:=by rw[hz2];omega
   have h4:1<=n:=by omega
   clear h0;go_enter func102,ntmps102;go_wp2_with (at_builtin;refine nR rfl _ _ w0.heap.size 80 3 9 rfl i0 (.string ⟨#[]⟩) underlying80 underlying3 hi hz0 hz1 rfl n rfl rfl h4 h3 (Ql hn (by decide)) (Qd _) ?_;intro g c w1 hown hgrow);have hc:=rR hown (Nat.zero_le n);have HC:=aA hc;have HU:=aA (eB (Qu w0) hgrow λg e=>by cases e);clear hown hgrow hc;go_wp2;go_ret;refine⟨_,rfl,?_,HU.out⟩;have:=HC.out;rw[Nat.zero_mul,List.take_zero]at this;exact this
theorem mDA{α:Type}(css:List (List α))(k:Nat)(h:k < css.length):(css.take (k+1)).flatten=(css.take k).flatten++css[k]:=by
 rw[Qj h,List.flatten_append];simp
theorem lFA{α:Type}(css:List (List α))(k:Nat):(css.take k).flatten.length<=css.flatten.length:=by
 have:css.flatten=(css.take k).flatten++(css.drop k).flatten:=by rw[<- List.flatten_append,List.take_append_drop]
 rw[this,Qc];omega
def CIS(w0:World)(css:List (List ByteArray))(v i:Value)(w:World):Prop :=
 ∃ k N,k<=css.length/\i = .int .i64 (k:Nat)/\N=(css.take k).flatten.length/\w.ownsRow w0.heap.size 9 1 v N ((css.take k).flatten.map .string)/\Under w0 w
theorem dEA(css:List (List ByteArray)){v:Value}(hn:css.length<=100000)(ht:css.flatten.length<=100000)(hv:ListV TextsV w0 v css) :
 Calls prog 85 #[v] w0 λe w=>∃ v,e = .returned v/\w.ownsRow w0.heap.size 9 1 v css.flatten.length (css.flatten.map .string)/\Under w0 w:=by
 obtain⟨i0,hi,hz0,hz1,hz2⟩:=info_parts Tryz.infoStrZ;obtain⟨p,c,us,rfl,hc,_,hr,hz⟩:=hv;have HR:=aA hr;have HZ:=aA hz;have HT:=aA ht;clear hr hz ht;go_enter func85,ntmps85;go_wp2
 go_loop [3,11] (λsz i=>∃(k:Nat) (N:Nat),k<=css.length/\i = .int .i64 k/\sz = .int .i64 N/\N=(css.take k).flatten.length) (λ_ i=>css.length - (intOf i).toNat)
 case atStart=>exact⟨0,0,Nat.zero_le _,rfl,rfl,rfl⟩
 case round =>
   obtain⟨k,f,hk,rfl,rfl,hf0⟩:=hrel;have hb1:f<=100000:=by rw[hf0];exact Ql (lFA css k) HT.out
   have hfp:(0:Int)<=f:=Int.natCast_nonneg _;have HF0:=aA hf0;clear hf0;by_cases hlt:k < css.length
   . obtain⟨u,hu,q,c',rfl,hc',h0',hr'⟩:=HZ.out.at (Qa hlt);obtain⟨b,off,rfl,hb,hcs⟩:=HR.out (λe=>by rw[e]at hu;simp at hu);have cc:=hcs k _ hu;have hb2:=Ql (lFA css (k+1)) HT.out;have hf:=congrArg List.length (mDA css k hlt);rw[Qc,<- HF0.out]at hf;have hb3:f+css[k].length<=100000:=by omega
     have HF:=aA hf;clear hcs hr' hf hb2 hu;generalize css[k].length=m at *;have hm0:(0:Int)<=m:=Int.natCast_nonneg _;have hb4:(f:Int)+m<=100000:=by omega
     have hb5:¬(f:Int)+m < 0:=by omega
     go_wp2
     go_round
     case rel=>exact⟨k+1,f+m,by omega,by go_num,by go_num,by rw[HF.out]⟩
     case measure=>simp[intOf];omega
   . obtain rfl:k=css.length:=by omega
     have HG:=aA (bJA (w0:=w0) f (by omega));clear hlt;go_wp2_with fail;refine HG.out.mono ?_;rintro e w1 ⟨v,rfl,hown,hU⟩;have HO:=aA hown;have HU:=aA hU;clear hown hU;go_wp2;go_loopw [6,27] (λv i wr=>CIS w0 css v i wr) (λ_ i _=>css.length - (intOf i).toNat)
     case atStart=>exact⟨0,0,Nat.zero_le _,rfl,rfl,HO.out,HU.out⟩
     case round =>
       obtain⟨k,N,hk,rfl,hN,hown,hU⟩:=hrel;by_cases hlt:k < css.length
       . obtain⟨u,hu,q,c',rfl,hc',h0',hr'⟩:=HZ.out.at (Qa hlt);obtain⟨b,off,rfl,hb,hcs⟩:=HR.out (λe=>by rw[e]at hu;simp at hu);have cc:=hcs k _ hu;rw[<- iA hU hb]at cc;have hb':=Qb hb hU.size;have hf:=mDA css k hlt;have hb2:=Ql (lFA css (k+1)) HT.out;rw[hf,Qc,<- hN]at hb2;have HN:=aA hN;have HF:=aA hf;have HO2:=aA hown;have HU2:=aA hU;have HR':=aA (hr'.under hU);have hmx:N+css[k].length<=maxLen:=by simp only[maxLen];omega
         have hby:(N+css[k].length) * 16<=140737488355328:=by omega
         clear hcs hr' hf hN hown hU hu;generalize hm:css[k].length=m at *;have HM:=aA hm;clear hm
         cases q with
         | none =>
           obtain rfl:c'=0:=h0' rfl;obtain rfl:m=0:=by omega
           go_wp2_with (at_builtin;refine wpList_append_own_none rfl _ _ 80 rfl w0.heap.size 9 i0 1 underlying80 hi _ N _ rfl HO2.out rfl ?_);go_roundw
           case rel=>exact⟨k+1,N,by omega,by go_num,by rw[HF.out,Qc,<- HN.out,HM.out];rfl,by rw[HF.out,List.eq_nil_of_length_eq_zero HM.out,List.append_nil];exact HO2.out,HU2.out⟩
           case measure=>simp[intOf];omega
         | some a =>
           obtain⟨XS,hXS⟩:∃ XS,XS=(List.take k css).flatten.map Value.string:=⟨_,rfl⟩;rw[<- hXS]at HO2;have HXS:=aA hXS;clear hXS;go_wp2_with (at_builtin;refine wpList_append_own_at _ rfl _ _ 80 rfl w0.heap.size 9 i0 _ 1 16 underlying80 hi hz0 hz1 hz2 rfl (by decide) _ N _ rfl HO2.out a m c' (css[k].map .string) rfl ?c1 ?c2 ?c3 hmx hby ?c5 ?_)
           case c1=>rw[List.length_map,HM.out];omega
           case c2 =>
             intro j u hj;obtain⟨b2,off2,e,hb2,hc2⟩:=HR'.out (λe=>by rw[e]at hj;cases hj)
             cases e;rw[tN];exact hc2 j u hj
           case c3 =>
             intro u hu;obtain⟨x,_,rfl⟩:=List.mem_map.1 hu;rfl
           case c5=>exact HU2.out.size
           intro v' w2 hown2 hgrow2 hnil2 hat2;have hU3:=eB HU2.out hgrow2 λg e=>(xB HO2.out e).1
           have HO3:=aA hown2;have HU3:=aA hU3;clear hown2 hnil2 hat2 hU3;go_wp2;go_roundw
           case rel=>exact⟨k+1,N+m,by omega,by go_num,by rw[HF.out,Qc,<- HN.out,HM.out],by rw[HF.out,List.map_append,<- HXS.out];exact HO3.out,HU3.out⟩
           case measure=>simp[intOf];omega
       . obtain rfl:k=css.length:=by omega
         have HO2:=aA hown;have HU2:=aA hU;have HN:=aA hN;clear hown hU hN;go_wp2;go_ret;have e1:=HN.out;have e3:=HO2.out;rw[List.take_length]at e1 e3;rw[e1]at e3;exact⟨_,rfl,e3,HU2.out⟩
end
theorem mJ{C:Nat->Prop}{w w':World}(h:Ch C w w'){b:Nat}(hb:b < w.heap.size)(hc:¬ C b)(j:Nat):w'.cell? ⟨b,j,none⟩=w.cell? ⟨b,j,none⟩:=by simp only[World.cell?,h.block b hb hc]
def jFA(C:Nat->Prop)(q:Option Addr):Prop:=∀ b off x,q=some ⟨b,off,x⟩->¬ C b
theorem oAB{C:Nat->Prop}{w w':World}{q:Option Addr}{cs:List Value}(h:RowArg w q cs)(hC:Ch C w w')(ha:jFA C q):RowArg w' q cs:=λhne=>by
 obtain⟨b,off,rfl,hb,hc⟩:=h hne;exact⟨b,off,rfl,Qb hb hC.size,λj u hj=>(mJ hC hb (ha b off none rfl) _).trans (hc j u hj)⟩
theorem sK{C:Nat->Prop}{w w':World}{q:Option Addr}{row:List Sx}(h:SxArg w q row)(hC:Ch C w w')(ha:jFA C q):SxArg w' q row:=λhne=>by
 obtain⟨b,off,rfl,hb,hc⟩:=h hne;refine⟨b,off,rfl,Qb hb hC.size,λk x hk=>?_⟩;rw[mJ hC hb (ha b off none rfl),mJ hC hb (ha b off none rfl),mJ hC hb (ha b off none rfl)];exact hc k x hk
def kZ(C:Nat->Prop)(v:Value):Prop:=∀ q n c,v = .slice q n c->n≠0->jFA C q
theorem pZA{C:Nat->Prop}{w w':World}{v:Value}{ss:List ByteArray}(h:TextsV w v ss)(hC:Ch C w w')(ha:kZ C v):TextsV w' v ss:=by
 obtain⟨p,c,rfl,h1,h2,h3⟩:=h;exact⟨p,c,rfl,h1,h2,λhne=>oAB h3 hC (ha _ _ _ rfl (λe=>hne (by rw[List.eq_nil_of_length_eq_zero e];rfl))) hne⟩
theorem lYA{C:Nat->Prop}{w:World}{base s n:Nat}{t:TypeId}{v:Value}{xs:List Value}(h:w.ownsRow base t s v n xs)(hc:∀ g,v.ownBlock=some g->¬ C g):kZ C v:=by
 rcases h.2 with⟨rfl,_⟩|⟨g,c,cur,rfl,_⟩
 . intro q n c e _;cases e;intro b off x e;cases e
 . intro q n c e _;cases e;intro b off x e;cases e;exact hc _ rfl
theorem kL{l:List ST}{y:ST}(h:y∈l):y.last∈rA l:=by
 induction l with
 | nil=>cases h
 | cons a l ih =>
   rw[rA,List.mem_append];rcases List.mem_cons.1 h with rfl|h
   . obtain⟨i,e⟩:=zF y
     left;rw[e];simp
   . exact .inr (ih h)
def TsArg(C:Nat->Prop)(w:World)(q:Option Addr)(ts:List ST):Prop:=ts≠[]->∃ b off,q=some ⟨b,off,none⟩/\b < w.heap.size/\¬ C b /\
 ∀ i T,ts[i]? = some T->∃ qi ci,w.cell? ⟨b,off+i,none⟩=some (.slice qi (qA T).length ci)/\(qA T).length<=ci/\SxArg w qi (qA T)/\jFA C qi
theorem TsArg.ch{C D:Nat->Prop}{w w':World}{q:Option Addr}{ts:List ST}(h:TsArg C w q ts)(hC:Ch C w w'):TsArg C w' q ts:=λhne=>by
 obtain⟨b,off,rfl,hb,hn,hc⟩:=h hne;refine⟨b,off,rfl,Qb hb hC.size,hn,λi T hi=>?_⟩;obtain⟨qi,ci,h1,h2,h3,h4⟩:=hc i T hi;exact⟨qi,ci,(mJ hC hb hn _).trans h1,h2,sK h3 hC h4,h4⟩
def TgC(rb:Nat)(ov:Value)(nb:Nat)(b:Nat):Prop:=qG rb ov b∨b=nb
noncomputable def rX:Code:=f59.body.getD .skip
noncomputable def nP:Code:=jA (jA (jA (jA (jA (jA (jA (jA (jA (jA (jA (jA (nC (jA rX)))))))))))))
noncomputable def tgRound:Code:=nC (nC (jA (aB (jA nP))))
def qE(rb nb:Nat)(bv nv:Value)(wt:Bool)(ps:ByteArray)(q2:Option Addr)(n c2 k:Nat)(J:Nat->Value):Array Value :=
 #[.pointer (some ⟨rb, 0, none⟩), J 1, bv, J 3, J 4, J 5, .bool false, J 7, J 8, J 9, J 10, J 11, .string ps, J 13, .pointer (some ⟨nb, 0, none⟩), nv, .bool wt, J 17, J 18, J 19, J 20, J 21, J 22, J 23, J 24, J 25, J 26, J 27, J 28, J 29, J 30, J 31, J 32, J 33, J 34, J 35, J 36, J 37, J 38, J 39, J 40, J 41, J 42, J 43, J 44, J 45, J 46, J 47, J 48, J 49, J 50, J 51, J 52, J 53, J 54, J 55, J 56, J 57, J 58, J 59, J 60, J 61, J 62, J 63, J 64, J 65, J 66, J 67, J 68, J 69, J 70, J 71, J 72, J 73, J 74, J 75, J 76, J 77, J 78, J 79, J 80, J 81, J 82, J 83, J 84, J 85, J 86, J 87, J 88, J 89, J 90, J 91, J 92, J 93, J 94, J 95, J 96, J 97, J 98, J 99, J 100, J 101, .slice q2 n c2, .int .i64 (n : Int), .int .i64 (k : Int), J 105, J 106, J 107, J 108, J 109, J 110, J 111, J 112, J 113, J 114, J 115, J 116, J 117, J 118, J 119, J 120, J 121, J 122, J 123, J 124, J 125, J 126, J 127, J 128, J 129, J 130, J 131, J 132, J 133, J 134, J 135, J 136, J 137, J 138, J 139, J 140, J 141, J 142, J 143, J 144, J 145, J 146, J 147, J 148, J 149, J 150, J 151, J 152, J 153, J 154, J 155, J 156, J 157, J 158, J 159, J 160, J 161, J 162, J 163, J 164, J 165, J 166, J 167, J 168, J 169, J 170, J 171, J 172, J 173, J 174, J 175, J 176, J 177, J 178, J 179, J 180, J 181, J 182, J 183, J 184, J 185, J 186, J 187, J 188, J 189, J 190, J 191, J 192, J 193, J 194, J 195, J 196, J 197, J 198, J 199, J 200, J 201, J 202, J 203, J 204]
def dL(b:Bool)(J:Nat->Value):Array Value:=#[J 0,J 1,J 2,J 3,J 4,J 5,.bool b,J 7,J 8,J 9,J 10,J 11,J 12,J 13,J 14,J 15,J 16,J 17,J 18,J 19,J 20,J 21,J 22,J 23,J 24,J 25,J 26,J 27,J 28,J 29,J 30,J 31,J 32,J 33,J 34,J 35,J 36,J 37,J 38,J 39,J 40,J 41,J 42,J 43,J 44,J 45,J 46,J 47,J 48,J 49,J 50,J 51,J 52,J 53,J 54,J 55,J 56,J 57,J 58,J 59,J 60,J 61,J 62,J 63,J 64,J 65,J 66,J 67,J 68,J 69,J 70,J 71,J 72,J 73,J 74,J 75,J 76,J 77,J 78,J 79,J 80,J 81,J 82,J 83,J 84,J 85,J 86,J 87,J 88,J 89,J 90,J 91,J 92,J 93,J 94,J 95,J 96,J 97,J 98,J 99,J 100,J 101,J 102,J 103,J 104,J 105,J 106,J 107,J 108,J 109,J 110,J 111,J 112,J 113,J 114,J 115,J 116,J 117,J 118,J 119,J 120,J 121,J 122,J 123,J 124,J 125,J 126,J 127,J 128,J 129,J 130,J 131,J 132,J 133,J 134,J 135,J 136,J 137,J 138,J 139,J 140,J 141,J 142,J 143,J 144,J 145,J 146,J 147,J 148,J 149,J 150,J 151,J 152,J 153,J 154,J 155,J 156,J 157,J 158,J 159,J 160,J 161,J 162,J 163,J 164,J 165,J 166,J 167,J 168,J 169,J 170,J 171,J 172,J 173,J 174,J 175,J 176,J 177,J 178,J 179,J 180,J 181,J 182,J 183,J 184,J 185,J 186,J 187,J 188,J 189,J 190,J 191,J 192,J 193,J 194,J 195,J 196,J 197,J 198,J 199,J 200,J 201,J 202,J 203,J 204]
def tJA(T:ST):Prop:=∀(W0 w:World) (rb m1 m2:Nat) (cv dv ov:Value) (acc:List Nd) (p e:Int) (q:Option Addr) (cap:Nat) (bv:Value) (st cs ds:List ByteArray),
 okS T->(qA T).length<=20000->(qA T).length<=cap->(∀ x∈qA T,x.word.size<=1000000)->StrcAt W0->TextsV W0 cv cs->TextsV W0 dv ds->cs.length<=1000000->ds.length<=1000000->ReS W0 rb m1 m2 cv dv ov acc p e w ->
 SxArg w q (qA T)->jFA (qG rb ov) q->TextsV w bv st->kZ (qG rb ov) bv->st.length+(qA T).length<=50000->acc.length+(qA T).length<=900000 ->
 Calls prog 59 #[.pointer (some ⟨rb,0,none⟩),.slice q (qA T).length cap,bv] w (ReOut W0 rb m1 m2 cv dv ov acc w (pG cs ds T st))
structure TgFix where
 (W0 wl:World) (rb m1 m2 nb:Nat) (cv dv ov bv:Value) (acc:List Nd) (st cs ds:List ByteArray) (ts:List ST) (parts:List UInt8) (q2:Option Addr) (c2:Nat) (R:Say)
structure TgS (F:TgFix) (k:Nat) (nms:List ByteArray) (wt:Bool) (x:Nd) (t:List Nd) (ov1:Value) (p1 e1:Int) (nv:Value) (w:World):Prop where
 re:ReS F.W0 F.rb F.m1 F.m2 F.cv F.dv ov1 (F.acc++t) p1 e1 w
 ch:Ch (TgC F.rb F.ov F.nb) F.wl w
 own:∀ b,b < F.wl.heap.size->ov1.ownBlock=some b->F.ov.ownBlock=some b
 nd:BoxAt w F.nb 96 (sQ x)
 row:w.ownsRow F.wl.heap.size 9 1 nv nms.length (nms.map .string)
 say:F.R=goS F.cs F.ds (fC wt (F.parts.drop k)) (F.ts.drop k) x nms F.st t
 nlen:nms.length<=k
 tlen:t.length<=(rA (F.ts.take k)).length
theorem iL{F:TgFix}{k:Nat}{nms:List ByteArray}{wt:Bool}{x:Nd}{t:List Nd}{ov1 nv:Value}{p1 e1:Int}{w:World}(h:TgS F k nms wt x t ov1 p1 e1 nv w){i:Nat}(hi:i < F.wl.heap.size)(hr:qG F.rb ov1 i):qG F.rb F.ov i:=by
 rcases hr with h1|h1
 . exact .inl h1
 . exact .inr (h.own i hi h1)
structure TgOk (F:TgFix):Prop where
 nlt:F.nb < F.wl.heap.size
 rlt:F.rb < F.wl.heap.size
 m1lt:F.m1 < F.wl.heap.size
 m2lt:F.m2 < F.wl.heap.size
 wlt:F.W0.heap.size<=F.wl.heap.size
 nrc:¬ qG F.rb F.ov F.nb
 lw:F.W0.heap.size<=F.nb
 arg:TsArg (TgC F.rb F.ov F.nb) F.wl F.q2 F.ts
 bound:TextsV F.wl F.bv F.st
 away:kZ (TgC F.rb F.ov F.nb) F.bv
 ok:uI F.ts
 len:(rA F.ts).length<=20000
 stl:F.st.length+(rA F.ts).length<=50000
 accl:F.acc.length+(rA F.ts).length<=900000
 words:∀ x∈rA F.ts,x.word.size<=1000000
 csT:TextsV F.W0 F.cv F.cs
 dsT:TextsV F.W0 F.dv F.ds
 csl:F.cs.length<=1000000
 dsl:F.ds.length<=1000000
 strc:StrcAt F.W0
 plen:F.parts.length=F.ts.length
theorem t2A{D:Nat->Prop}{W0 w w':World}{rb m1 m2:Nat}{cv dv ov:Value}{acc:List Nd}{p e:Int}(h:ReS W0 rb m1 m2 cv dv ov acc p e w)(hc:Ch D w w')(h1:¬ D rb)(h2:¬ D m1)(h3:¬ D m2)(h4:∀ g,ov.ownBlock=some g->¬ D g)(h5:∀ b,D b->W0.heap.size<=b):ReS W0 rb m1 m2 cv dv ov acc p e w' :=
 ⟨fH h.box hc h1,tT h.f hc h2,tT h.a hc h3,iE h.row hc h4,dB h.und hc h5,h.lo⟩
theorem TgS.re_ch{F:TgFix}{k:Nat}{nms:List ByteArray}{wt:Bool}{x:Nd}{t:List Nd}{ov1 nv:Value}{p1 e1:Int}{w w':World}{D:Nat->Prop}(hF:TgOk F)(h:TgS F k nms wt x t ov1 p1 e1 nv w)(hc:Ch D w w')(hD:∀ i,D i->F.wl.heap.size<=i/\ov1.ownBlock≠some i) :
 ReS F.W0 F.rb F.m1 F.m2 F.cv F.dv ov1 (F.acc++t) p1 e1 w'/\Ch (TgC F.rb F.ov F.nb) F.wl w'/\BoxAt w' F.nb 96 (sQ x):=by
 have hlow:∀ i,i < F.wl.heap.size->¬ D i:=λi hi hd=>by have:=(hD i hd).1;omega
 refine⟨t2A h.re hc (hlow _ hF.rlt) (hlow _ hF.m1lt) (hlow _ hF.m2lt) (λg hg hd=>(hD g hd).2 hg) (λb hb=>Ql hF.wlt (hD b hb).1),h.ch.trans hc (λi hi hd=>(hlow i hi hd).elim),fH h.nd hc (hlow _ hF.nlt)⟩
theorem TgS.set_ch{F:TgFix}{k:Nat}{nms:List ByteArray}{wt:Bool}{x:Nd}{t:List Nd}{ov1 nv:Value}{p1 e1:Int}{w w3:World}(hF:TgOk F)(h:TgS F k nms wt x t ov1 p1 e1 nv w)(hU:Under w w3)(j:Nat)(u:Value) :
 ReS F.W0 F.rb F.m1 F.m2 F.cv F.dv ov1 (F.acc++t) p1 e1 (w3.setCell ⟨F.nb,j,none⟩ u)/\Ch (TgC F.rb F.ov F.nb) F.wl (w3.setCell ⟨F.nb,j,none⟩ u)/\BoxAt (w3.setCell ⟨F.nb,j,none⟩ u) F.nb 96 ((sQ x).setIfInBounds j u)/\(w3.setCell ⟨F.nb,j,none⟩ u).ownsRow F.wl.heap.size 9 1 nv nms.length (nms.map .string):=by
 have hc:Ch (λi=>i=F.nb) w3 (w3.setCell ⟨F.nb,j,none⟩ u):=(Ch.refl (C:=λi=>i=F.nb) w3).set (g:=F.nb) (λ_=>rfl) j u;have h3:=h.re.under hU;have hn3:=h.nd.under hU;refine⟨t2A h3 hc (λe=>hF.nrc (.inl e.symm)) (λe=>xS hn3 h3.f e.symm) (λe=>xS hn3 h3.a e.symm) (λg hg e=>?_) (λb e=>by rw[e];exact hF.lw),(h.ch.under hU).trans hc (λi _ e=>.inr e),hn3.set j u,iE (uA h.row hU) hc (λg hg e=>?_)⟩
 . subst e;exact hF.nrc (.inr (h.own _ hF.nlt hg))
 . have:=(xB h.row hg).1;have:=hF.nlt;omega
theorem cCA{F:TgFix}(k:Nat)(hk:k < F.ts.length):(rA (F.ts.take k)).length<=(rA (F.ts.take (k+1))).length:=by
 rw[Qj hk,pE,Qc];omega
theorem TgS.name{F:TgFix}{k:Nat}{nms:List ByteArray}{wt wt':Bool}{x:Nd}{t:List Nd}{ov1 nv v':Value}{p1 e1:Int}{w w':World}{s:ByteArray}(hF:TgOk F)(hk:k < F.ts.length)(h:TgS F k nms wt x t ov1 p1 e1 nv w)(hc:Ch (λi=>nv.ownBlock=some i) w w')
    (hown:w'.ownsRow F.wl.heap.size 9 1 v' (nms.length+1) (nms.map .string++[.string s])) (hs:F.R=goS F.cs F.ds (fC wt' (F.parts.drop (k+1))) (F.ts.drop (k+1)) x (nms++[s]) F.st t):TgS F (k+1) (nms++[s]) wt' x t ov1 p1 e1 v' w':=by
  obtain⟨h1,h2,h3⟩:=h.re_ch hF hc (λi hi=>⟨(xB h.row hi).1,by
    rcases own_ne h.row h.re.row (by decide) with e|e
    . rw[e]at hi;cases hi
    . intro e2;exact e (hi.trans e2.symm)⟩)
  refine⟨h1,h2,h.own,h3,by rw[Qc,List.map_append];exact hown,hs,by rw[Qc];have:=h.nlen;simp;omega,Ql h.tlen (cCA k hk)⟩
def wT(F:TgFix)(k:Nat)(a':Act)(w':World):Prop :=
 ∃ nms wt x t ov1 p1 e1 nv J,a'=⟨qE F.rb F.nb F.bv nv wt ⟨F.parts.toArray⟩ F.q2 F.ts.length F.c2 k J,[]⟩/\TgS F k nms wt x t ov1 p1 e1 nv w'
def mHA(F:TgFix)(ex:Exit)(a':Act)(w':World):Prop :=
 (ex = .exit 0/\wT F F.ts.length a' w') ∨
 (ex = .ret/\∃ e2 p2 ov2 acc2,(∃ J,a'=⟨dL false J,[]⟩)/\F.R = .error (e2,p2)/\ReS F.W0 F.rb F.m1 F.m2 F.cv F.dv ov2 acc2 p2 e2 w'/\Ch (TgC F.rb F.ov F.nb) F.wl w'/\∀ b,b < F.wl.heap.size->ov2.ownBlock=some b->F.ov.ownBlock=some b)
end Go.Proofs.YtpkaiodmbicjiaaGreatDoor
