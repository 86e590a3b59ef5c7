/- Part 11 of what the proof rests on. -/
import Derived.Conc.DeferLaws
import Derived.Conc.AppendWalk
import Derived.Tactics
import Derived.Test.YtggjbblgoddnjaaGreatDoorM08
import Derived.Test.YtggjbblgoddnjaaGreatDoorM10
set_option linter.unusedSimpArgs false
set_option linter.unusedVariables false
namespace Go.Lx
open Go.Conc
section
variable {P : Program} {main : Bool} {R : World → World → Prop} {D : World → World → Array Event → Prop} {Stop : Goroutine → World → Prop} {m : Nat} {b : Frame} {a : Act} {k : List Item} {cs : List Frame} {w : World}
theorem fE(T:Terms R D){x y:Code}(h:Goes P main R D Stop m (G (b.at a (.code x :: .code y::k)) cs) w):Goes P main R D Stop (m+1) (G (b.at a (.code (.seq x y)::k)) cs) w :=
 Goes.step rfl fun w₁ h₁=>by rw[stepG_seq];exact⟨T.idle _,h.rely T.trans h₁⟩
theorem kQ(T:Terms R D){id:Nat}{c:Code}(h:Goes P main R D Stop m (G (b.at a (.code c :: .inBlock id::k)) cs) w):Goes P main R D Stop (m+1) (G (b.at a (.code (.block id c)::k)) cs) w :=
 Goes.step rfl fun w₁ h₁=>by rw[stepG_block];exact⟨T.idle _,h.rely T.trans h₁⟩
theorem aX(T:Terms R D){id:Nat}(h:Goes P main R D Stop m (G (b.at a k) cs) w):Goes P main R D Stop (m+1) (G (b.at a (.inBlock id::k)) cs) w :=
 Goes.step rfl fun w₁ h₁=>by rw[stepG_inBlock];exact⟨T.idle _,h.rely T.trans h₁⟩
theorem fFA(T:Terms R D){c:Code}(h:Goes P main R D Stop m (G (b.at a (.code c :: .inLoop c::k)) cs) w):Goes P main R D Stop (m+1) (G (b.at a (.code (.loop c)::k)) cs) w :=
 Goes.step rfl fun w₁ h₁=>by rw[stepG_loop];exact⟨T.idle _,h.rely T.trans h₁⟩
theorem rR(T:Terms R D){c:Code}(h:Goes P main R D Stop m (G (b.at a (.code c :: .inLoop c::k)) cs) w):Goes P main R D Stop (m+1) (G (b.at a (.inLoop c::k)) cs) w :=
 Goes.step rfl fun w₁ h₁=>by rw[stepG_inLoop];exact⟨T.idle _,h.rely T.trans h₁⟩
theorem vMA(T:Terms R D){c:Code}(h:Goes P main R D Stop m (G (b.at a (.code c :: .inScope c::k)) cs) w):Goes P main R D Stop (m+1) (G (b.at a (.code (.scope c)::k)) cs) w :=
 Goes.step rfl fun w₁ h₁=>by rw[zKA];exact⟨T.idle _,h.rely T.trans h₁⟩
theorem mGA(T:Terms R D){c:Code}(h:Goes P main R D Stop m (G (b.at a k) cs) w):Goes P main R D Stop (m+1) (G (b.at a (.inScope c::k)) cs) w :=
 Goes.step rfl fun w₁ h₁=>by rw[pDA];exact⟨T.idle _,h.rely T.trans h₁⟩
theorem rXA(T:Terms R D)(h:Goes P main R D Stop m (G { b.at a [] with mode:=.returning } cs) w):Goes P main R D Stop (m+1) (G (b.at a []) cs) w :=
 Goes.step rfl fun w₁ h₁=>by rw[stepG_end];exact⟨T.idle _,h.rely T.trans h₁⟩
theorem aJ(T:Terms R D){id:Nat}{ops:Array Oper}(h:Goes P main R D Stop m (G (b.at a (.inRegion ops (List.range ops.size)::k)) cs) w):Goes P main R D Stop (m+1) (G (b.at a (.code (.region id ops false)::k)) cs) w :=
 Goes.step rfl fun w₁ h₁=>by rw[stepG_region];exact⟨T.idle _,h.rely T.trans h₁⟩
theorem iE {fn : FuncId} {c : Code} {n : Nat} {Q : Exit → Act → World → Prop} (h : c.wpC P main R D fn n Q a w) (hb : b.fn = fn) (hk : b.kind ≠ .early)
    (hc:∀ e a' w',Q e a' w'→After P main R D Stop m b k cs e a' w'):Goes P main R D Stop (m+n) (G (b.at a (.code c::k)) cs) w:=h b k cs Stop m hb hk hc
theorem tO {fn : FuncId} {ops : Array Oper} {todo : List Nat} {n : Nat} {Q : Exit → Act → World → Prop} (h : OpsC P main R D fn ops todo n Q a w) (hb : b.fn = fn) (hk : b.kind ≠ .early)
    (hc:∀ e a' w',Q e a' w'→After P main R D Stop m b k cs e a' w'):Goes P main R D Stop (m+n) (G (b.at a (.inRegion ops todo::k)) cs) w:=h b k cs Stop m hb hk hc
theorem bW {ops : Array Oper} {i : Nat} {rest : List Nat} {o : Oper} (ho : ops[i]? = some o) (hw : Region.wanted o (yielded ops a.tmps) = true) (hk : b.kind ≠ .early)
    (h:∀ w₁,R w w₁→∀ K:Act→World→Prop,(∀ a' w',D w₁ w' (listed P b.fn a o w₁)∧Goes P main R D Stop m (G (b.at a' (.inRegion ops rest::k)) cs) w'→K a' w')→uponK o a K ((execOp a.eval o).run P w₁)) :
    Goes P main R D Stop (m+1) (G (b.at a (.inRegion ops (i::rest)::k)) cs) w :=
  Goes.step rfl fun w₁ h₁=>goes_oper_k ho hw hk fun K' hK'=>h w₁ h₁ K' fun a' w' x=>hK' a' w' x
theorem sFA(h:∀ w₁,R w w₁→Stop (G (b.at a k) cs) w₁):Goes P main R D Stop 0 (G (b.at a k) cs) w:=h
end
theorem iOA {P : Program} {main : Bool} {R : World → World → Prop} {D : World → World → Array Event → Prop} (T : Terms R D) {Stop : Goroutine → World → Prop} {m : Nat} {b : Frame} {a : Act} {k : List Item} {cs : List Frame} {w : World}
    {ops:Array Oper} {i:Nat} {rest:List Nat} {o:Oper} {dd:Deferred} (ho:ops[i]? = some o) (hw:Region.wanted o (yielded ops a.tmps)=true) (hk:b.kind≠.early)
    (hr:∀ w,(execOp a.eval o).run P w = .ok (.defer dd) w) (he:∀ w,(execOp a.eval o).events P w #[]=#[])
    (h:Goes P main R D Stop m (G (b.at (Act.put ⟨a.tmps,dd::a.defers⟩ o.dst undef) (.inRegion ops rest::k)) cs) w):Goes P main R D Stop (m+1) (G (b.at a (.inRegion ops (i::rest)::k)) cs) w:=by
  refine Goes.step rfl fun w₁ h₁=>?_
  have hs:stepG P main (G (b.at a (.inRegion ops (i::rest)::k)) cs) w₁ = .go (G (b.at (Act.put ⟨a.tmps,dd::a.defers⟩ o.dst undef) (.inRegion ops rest::k)) cs) w₁ #[]:=by
   have hk':(b.kind==CallKind.early)=false:=by simpa using hk
   have hfin:({ b.at a (.inRegion ops (i::rest)::k) with defers:=dd::a.defers }:Frame).finish undef=b.at (Act.put ⟨a.tmps,dd::a.defers⟩ o.dst undef) (.inRegion ops rest::k):=by
    have:=Frame.finish_at b { a with defers:=dd::a.defers } ops i rest k undef;rw[ho]at this;exact this
   have hl:seen P b.fn #[]=#[]:=seen_none P _;rw[stepG_oper ho hw,← hfin];simp[stepG.apply,hr,he,hl,G,Frame.at,hk',GStep.after]
  rw[hs];exact⟨T.idle _,h.rely T.trans h₁⟩
def zI(c:Nat)(ats:Array TypeId)(ty:TypeId)(bs:Array Bool):Deferred:={ target:=.builtin .close ats ty bs,args:=#[.chan (some c)] }
theorem pW {P : Program} {main : Bool} {b : Frame} {tmps : Array Value} {c : Nat} {ats : Array TypeId} {ty : TypeId} {bs : Array Bool} {ds : List Deferred} {todo : List Item} {cs : List Frame} {w : World}
    {cap s r:Nat} {buf:Array Value} {tm:Bool} (hc:w.heap[c]? = some (.chan cap buf false s r tm)) (hq:(P.funcs[b.fn]?).any (·.norace)=false) :
    stepG P main (G { b.at ⟨tmps,zI c ats ty bs::ds⟩ todo with mode:=.returning } cs) w = .go (G { b.at ⟨tmps,ds⟩ todo with mode:=.returning } cs) (w.setChan c cap buf true s r tm) #[⟨.obj c,false,true⟩,⟨.obj c,true,true⟩]:=by
  have hr:(invoke (zI c ats ty bs).target (zI c ats ty bs).args).run P w = .ok (.value (.tuple #[])) (w.setChan c cap buf true s r tm):=by
   simp[zI,invoke,builtin,run_close_open _ _ hc,World.setChan]
  have he:(invoke (zI c ats ty bs).target (zI c ats ty bs).args).events P w #[]=#[⟨.obj c,false,true⟩,⟨.obj c,true,true⟩]:=by
   simp[zI,invoke,builtin,events_close_open _ _ hc]
  have hs:seen P b.fn #[⟨.obj c,false,true⟩,⟨.obj c,true,true⟩]=#[⟨.obj c,false,true⟩,⟨.obj c,true,true⟩]:=seen_eq hq (by intro e he f;simp at he;rcases he with rfl | rfl<;>simp);simp only[zI]at hr he;simp[G,stepG,unwind,callDeferred,Frame.at,zI,hr,he,hs,GStep.after]
variable {d : Deal} {T : TypeId → Prop} {o : Option Nat} {w w' w₁ : World}
theorem Turn.draw(w:World):Turn d T o w w.drew:=⟨rfl,rfl,rfl,Nat.le_refl _,fun _ _ _=>rfl,fun _ _ _ cs _ fz h=>⟨cs,fz,h⟩,fun _ _ h=>h,fun b h1 h2=>absurd h2 (by show ¬ b < w.heap.size;omega)⟩
theorem Turn.row{g:Nat}{cur cs:Array Value}{ty:TypeId}{fz:Nat×Nat}(ho:Own d T o w g)(hg:w.heap[g]? = some (.cells cur ty fz)):Turn d T o w (w.setRow g cs):=by
 have hsz:(w.setRow g cs).heap.size=w.heap.size:=by simp[World.setRow]
 refine⟨rfl,rfl,rfl,by rw[hsz];exact Nat.le_refl _,fun b hb hno=>setRow_other w g b cs fun e=>hno (e▸ho),fun b hb _ c t f hc=>?_,fun b hbo hn c t f=>?_,fun b h1 h2=>absurd h2 (by rw[hsz];omega)⟩
 · by_cases e : b = g
   · subst e; rw [hg] at hc
     cases hc;exact⟨_,_,setRow_heap w b cur cs ty fz hg⟩
   · exact⟨c,f,by rw[setRow_other w g b cs e];exact hc⟩
 · by_cases e : b = g
   · subst e;exact absurd hg (hn _ _ _)
   · rw[setRow_other w g b cs e];exact hn c t f
theorem rIA {P : Program} (w : World) (t ty e : TypeId) (i : TypeInfo) (z : Value) (size bytes : Nat) (ht : P.underlying t = some (.slice e)) (hi : P.info? e = some i) (hz : i.zero = some z)
    (hsize:i.size=size) (hby:i.bytes=bytes) (hzs:z.cells.size=size) (hsz:0 < size)
    (v:Value) (n:Nat) (xs:List Value) (hown:w.ownsRow d.B e size v n xs)
    (a:Addr) (m c:Nat) (news:List Value) (hm:0 < m) (hl:news.length=m * size) (hnews:∀ j u,news[j]? = some u→w.cell? (a.add j)=some u) (h1:∀ u∈news,u.oneCell'=true)
    (h63:n+m≤maxLen) (hbytes:(n+m) * bytes≤140737488355328) (hT:T e) (hB:d.B≤w.heap.size) (hbox:∀ b,o=some b→b < w.heap.size) :
    ∃ v' w',(Builtin.append_ #[t,t] ty #[v,.slice (some a) m c]).run P w = .ok v' w'∧w'.ownsRow d.B e size v' (n+m) (xs++news)∧w.grownBy w' v.ownBlock∧Turn d T o w w':=by
  obtain⟨v',w',hr,ho',hg,_⟩:=run_append_own (P:=P) w d.B t ty e i z size bytes ht hi hz hsize hby hzs hsz v n xs hown a m c news hl hnews h1 h63 hbytes hB;refine⟨v',w',hr,ho',hg,?_⟩;subst hsize hby;have hsmall:n+m≤9223372036854775807:=by simp only[maxLen]at h63;omega
  rcases hown.2 with⟨rfl,rfl⟩ | ⟨g,cap,cur,rfl,hbg,hgg,hnc,hcm,hcs,htake⟩
  · rw [run_append_nil (P := P) w t ty e i z ht hi hz a m c news hl hnews hm (by omega) (by have hb := hbytes; simp only [Nat.zero_add] at hb; omega)] at hr
    cases hr;exact(Turn.draw w).trans (Turn.alloc hT hbox) hB
  · by_cases hroom : n + m ≤ cap
    · have hfit : n * i.size + news.length ≤ cur.size := by rw [hl, hcs, ← Nat.add_mul]; exact Nat.mul_le_mul_right _ hroom
      rw[run_append_room (P:=P) w t ty e i ht hi g n cap cur hgg a m c news hl hnews h1 hroom hfit]at hr
      cases hr;exact Turn.row (.inl ⟨hbg,cur,e,_,hgg,hT⟩) hgg
    · have holds : ∀ j u, xs[j]? = some u → w.cell? ((⟨g, 0, none⟩ : Addr).add j) = some u := hown.cells (g := g) rfl; rw [run_append_grow (P := P) w t ty e i z ht hi hz ⟨g, 0, none⟩ n cap xs hown.1 holds a m c news hl hnews (by omega) (by omega) (growslice_fits (by omega) hbytes)] at hr
      cases hr;exact(Turn.draw w).trans (Turn.alloc hT hbox) hB
theorem qGA{e:TypeId}{size n:Nat}{v:Value}{xs:List Value}(hT:T e)(h:w.ownsRow d.B e size v n xs)(r:Rely d T o w w₁):w₁.ownsRow d.B e size v n xs:=by
 refine⟨h.1,?_⟩;rcases h.2 with hn | ⟨g,cap,cur,rfl,hb,hg,rest⟩
 · exact .inl hn
 · exact .inr ⟨g,cap,cur,rfl,hb,by rw[r.own g (.inl ⟨hb,cur,e,_,hg,hT⟩)];exact hg,rest⟩
theorem oLA{e:TypeId}{size n:Nat}{v:Value}{xs:List Value}(hT:T e)(h:w.ownsRow d.B e size v n xs){b:Nat}(hb:v.ownBlock=some b):Own d T o w b∧b < w.heap.size:=by
 rcases h.2 with⟨rfl,_⟩ | ⟨g,cap,cur,rfl,hbb,hg,_⟩
 · cases hb
 · cases hb;exact⟨.inl ⟨hbb,cur,e,_,hg,hT⟩,(Array.getElem?_eq_some_iff.1 hg).1⟩
structure Low (d:Deal) (w0 w:World):Prop where
 os:w.os=w0.os
 output:w.output=w0.output
 size:w0.heap.size≤w.heap.size
 block:∀ b,b < d.B→b≠d.c→w.heap[b]? = w0.heap[b]?
theorem Low.refl(w:World):Low d w w:=⟨rfl,rfl,Nat.le_refl _,fun _ _ _=>rfl⟩
theorem Low.rely{w0:World}(h:Low d w0 w)(r:Rely d T o w w₁):Low d w0 w₁ :=
 ⟨r.os.trans h.os,r.output.trans h.output,Nat.le_trans h.size r.size,fun b hb hc=>(r.low b hb hc).trans (h.block b hb hc)⟩
theorem Low.turn{w0:World}(h:Low d w0 w)(r:Turn d T o w w')(hB:d.B≤w.heap.size)(hbox:∀ b,o=some b→d.B≤b):Low d w0 w' :=
 ⟨r.os.trans h.os, r.output.trans h.output, Nat.le_trans h.size r.size, fun b hb hc => (r.rest b (by omega) (by
   rintro(⟨h1,_⟩ | h1)
   · omega
   · have:=hbox b h1;omega)).trans (h.block b hb hc)⟩
structure MH (d:Deal) (T:TypeId→Prop) (e:TypeId) (size:Nat) (L:List (Nat×Obj)) (w0:World) (v:Value) (n:Nat) (xs:List Value) (o:Option Nat) (w:World):Prop where
 holds:Holds d T o L w
 own:w.ownsRow d.B e size v n xs
 low:Low d w0 w
 typ:T e
 boxB:∀ b,o=some b→d.B≤b
variable {e : TypeId} {size n : Nat} {L L' : List (Nat × Obj)} {w0 : World} {v : Value} {xs : List Value}
theorem MH.rely(h:MH d T e size L w0 v n xs o w)(r:Rely d T o w w₁):MH d T e size L w0 v n xs o w₁:=⟨h.holds.rely r,qGA h.typ h.own r,h.low.rely r,h.typ,h.boxB⟩
theorem MH.cons(h:MH d T e size L w0 v n xs o w)(cs:Array Value){ty:TypeId}(ht:T ty):MH d T e size ((w.heap.size,Obj.cells cs ty (0,0))::L) w0 v n xs o (w.alloc (.cells cs ty)) :=
 ⟨h.holds.cons cs ht,h.own.alloc _,h.low.turn (Turn.alloc ht h.holds.box) h.holds.big h.boxB,h.typ,h.boxB⟩
theorem MH.weak(h:MH d T e size L w0 v n xs o w)(hL:∀ p∈L',p∈L):MH d T e size L' w0 v n xs o w:=⟨h.holds.weak hL,h.own,h.low,h.typ,h.boxB⟩
theorem MH.boxed{tb:TypeId}(h:MH d T e size L w0 v n xs o w)(cs:Array Value):MH d T e size [(w.heap.size,Obj.cells cs tb (0,0))] w0 v n xs (some w.heap.size) (w.alloc (.cells cs tb)) :=
 ⟨h.holds.boxed fun p hp => .inl (by simpa using hp), h.own.alloc _, ⟨h.low.os, h.low.output, Nat.le_trans h.low.size (by simp), fun b hb hc => by
   rw[heap_alloc_old w _ (Nat.lt_of_lt_of_le hb h.holds.big)];exact h.low.block b hb hc⟩,h.typ,fun b hb=>by cases hb;exact h.holds.big⟩
theorem MH.set4{xb:Nat}{x0 x1 x2 x3:Value}{tb:TypeId}(h:MH d T e size [(xb,Obj.cells #[x0,x1,x2,x3] tb (0,0))] w0 v n xs (some xb) w)(hv:v.ownBlock≠some xb)(v0 v1 v2 v3:Value) :
 MH d T e size [(xb,Obj.cells #[v0,v1,v2,v3] tb (0,0))] w0 v n xs (some xb) ((((w.setCell ⟨xb,0,none⟩ v0).setCell ⟨xb,1,none⟩ v1).setCell ⟨xb,2,none⟩ v2).setCell ⟨xb,3,none⟩ v3):=by
 have hlt:=h.holds.lt (List.mem_singleton.2 rfl);refine⟨h.holds.set4 (by simp) v0 v1 v2 v3,?_,h.low.turn (Turn.set4 h.holds.boxOwn hlt h.holds.big v0 v1 v2 v3) h.holds.big h.boxB,h.typ,h.boxB⟩;refine⟨h.own.1,?_⟩;rcases h.own.2 with hn | ⟨g,cap,cur,rfl,hb,hg,rest⟩
 · exact .inl hn
 · have hne : g ≠ xb := fun e => hv (by simp [Value.ownBlock, e])
   refine .inr ⟨g,cap,cur,rfl,hb,?_,rest⟩;rw[heap_set _ _ _ _ hne,heap_set _ _ _ _ hne,heap_set _ _ _ _ hne,heap_set _ _ _ _ hne];exact hg
theorem hJA{ev:Event}{ad:Addr}(h:ev.loc = .cell ad)(ho:Own d T o w ad.block):jU d T o w ev:=by
 obtain⟨loc,wr,sy⟩:=ev;simp only at h;subst h;refine⟨fun y hy _=>?_,by simp,by simp⟩;simp[MemAct.ofEvent,MemAct.touch?]at hy;subst hy;exact⟨ad,rfl,.inl ho⟩
theorem xRA{m:Mark}(h:Neutral m):jU d T o w ⟨.mark m,false,true⟩:=by
 unfold Neutral at h;subst h;exact⟨fun y hy _=>by simp[MemAct.ofEvent,MemAct.touch?]at hy,by simp,by simp⟩
variable {P : Program}
theorem r0A(T:Tame P):∀(n:Nat) {g g1:Goroutine} {w w1:World},GOk g→g.status = .running→g1.status = .running→runN P n (solo g w) = .next (solo g1 w1)→GOk g1:=by
 intro n
 induction n with
 | zero =>
   intro g g1 w w1 hg _ _ h;simp only[runN,Stepped.next.injEq,solo,Machine.mk.injEq]at h;obtain⟨_,e,_⟩:=h;have e:g=g1:=by simpa using e
   subst e;exact hg
 | succ n ih =>
   intro g g1 w w1 hg hr h1 h;obtain⟨g',w',hg',hr',_,_,hn⟩:=yU T hg hr h1 h;exact ih hg' hr' h1 hn
def Fits(Stop:Goroutine→World→Prop)(g:Goroutine)(w:World):Prop:=GOk g∧g.status = .running∧Stop g w
def RunG(P:Program)(Stop:Goroutine→World→Prop)(g:Goroutine)(w:World):Prop :=
 GOk g→g.status = .running→∀ τ d gs sl t q,gs[0]? = some g→Leavers P t gs q→Kn t→Gets P (Fits Stop) gs (re w τ d) sl t
section
variable {Stop S1 S2 : Goroutine → World → Prop} {g : Goroutine} {w : World}
theorem RunG.re(h:RunG P Stop g w)(τ:Nat→Question→Nat)(d:Nat):RunG P Stop g (re w τ d):=fun hg hr τ' d'=>h hg hr τ' d'
theorem RunG.stop(h:∀ τ d,Stop g (Lx.re w τ d)):RunG P Stop g w:=fun hg hr τ d gs sl t q h0 hL hK=>⟨0,gs,g,Lx.re w τ d,sl,t,q,rfl,h0,⟨hg,hr,h τ d⟩,hL,hK⟩
theorem RunG.trans(h:RunG P S1 g w)(h2:∀ g' w',S1 g' w'→RunG P S2 g' w'):RunG P S2 g w:=fun hg hr τ d gs sl t q h0 hL hK =>
 (h hg hr τ d gs sl t q h0 hL hK).trans fun gs' g' w' sl' t' q' h0' hS hL' hK'=>h2 g' w' hS.2.2 hS.1 hS.2.1 w'.tape w'.drawn gs' sl' t' q' h0' hL' hK'
theorem RunG.mono(h:RunG P S1 g w)(h2:∀ g' w',S1 g' w'→S2 g' w'):RunG P S2 g w:=fun hg hr τ d gs sl t q h0 hL hK=>by
 obtain⟨N,gs',g',w',sl',t',q',e,h1,hS,hL',hK'⟩:=h hg hr τ d gs sl t q h0 hL hK;exact⟨N,gs',g',w',sl',t',q',e,h1,⟨hS.1,hS.2.1,h2 _ _ hS.2.2⟩,hL',hK'⟩
theorem RunG.lone(T:Tame P)(h:∀ τ d,∃ g1 w1,Steps P (solo g (Lx.re w τ d)) (solo g1 w1)∧g1.status = .running∧RunG P Stop g1 w1):RunG P Stop g w:=by
 intro hg hr τ d gs sl t q h0 hL hK;have hl:LoneOk P (Fits (RunG P Stop)) g (Lx.re w τ d):=fun τ' d'=>by
  rw[d1A];obtain⟨g1,w1,⟨n,hn⟩,hr1,hG⟩:=h τ' d';exact⟨n,g1,w1,hn,hr1,r0A T n hg hr hr1 hn,hr1,hG⟩
 have he:=xGA T (fun g w τ d h=>⟨h.1,h.2.1,h.2.2.re τ d⟩) hg hr hl;exact(beside he h0 hL hK).gets.trans fun gs' g' w' sl' t' q' h0' hS hL' hK'=>hS.2.2 hS.1 hS.2.1 w'.tape w'.drawn gs' sl' t' q' h0' hL' hK'
theorem RunG.step{fr fr':Frame}{cs cs':List Frame}(T:Tame P)(h:∀ w,Go.step P (Go.lone fr cs w) = .next (Go.lone fr' cs' w))(hG:RunG P Stop (G fr' cs') w):RunG P Stop (G fr cs) w :=
 RunG.lone T fun τ d=>⟨G fr' cs',Lx.re w τ d,.one (h _),rfl,hG.re τ d⟩
theorem RunG.phase{X:Shared}{ms:List MAct}{ss:List SAct}(h:∀ τ d,AtGo X ms ss g (Lx.re w τ d))(hf:GOk g→∀ g' w',X.Fin g' w'→GOk g'∧g'.status = .running):RunG X.P X.Fin g w:=by
 intro hg hr τ d gs sl t q h0 hL hK;obtain⟨N,gs',g',w',sl',t',q',e,h1,hS,hL',hK'⟩:=Lx.phase (h τ d) h0 hL hK (sl:=sl);exact⟨N,gs',g',w',sl',t',q',e,h1,⟨(hf hg _ _ hS).1,(hf hg _ _ hS).2,hS⟩,hL',hK'⟩
end
def AfterG (P : Program) (Stop : Goroutine → World → Prop) (b : Frame) (k : List Item) (cs : List Frame) : Exit → Act → World → Prop
  | .normal,a,w=>RunG P Stop (G (b.at a k) cs) w
  | .exit id,a,w=>∃ k',exitTo id k=some k'∧RunG P Stop (G (b.at a k') cs) w
  | .ret,a,w=>∀ todo,RunG P Stop (G { b.at a todo with mode:=.returning } cs) w
  | _,_,_=>False
theorem AfterG.push {Stop : Goroutine → World → Prop} {b : Frame} {x : Item} {k : List Item} {cs : List Frame} {e : Exit} {a : Act} {w : World} (hx : x.plain = true) (he : e ≠ .normal)
    (h:AfterG P Stop b k cs e a w):AfterG P Stop b (x::k) cs e a w:=by
  cases e with
  | normal=>exact absurd rfl he
  | exit id=>obtain⟨k',hk,hg⟩:=h;exact⟨k',by cases x<;>simp_all[exitTo,Item.plain],hg⟩
  | ret=>exact h
  | goto l=>exact h
  | panic ch=>exact h
  | outgrown=>exact h
def _root_.Go.Code.wpG(P:Program)(c:Code)(Q:Exit→Act→World→Prop)(a:Act)(w:World):Prop :=
 ∀(b:Frame) (k:List Item) (cs:List Frame) (Stop:Goroutine→World→Prop),b.kind≠.early →
  (∀ e a' w',Q e a' w'→AfterG P Stop b k cs e a' w')→RunG P Stop (G (b.at a (.code c::k)) cs) w
def qX(P:Program)(ops:Array Oper)(todo:List Nat)(Q:Exit→Act→World→Prop)(a:Act)(w:World):Prop :=
 ∀(b:Frame) (k:List Item) (cs:List Frame) (Stop:Goroutine→World→Prop),b.kind≠.early →
  (∀ e a' w',Q e a' w'→AfterG P Stop b k cs e a' w')→RunG P Stop (G (b.at a (.inRegion ops todo::k)) cs) w
section rules
variable {Q Q' : Exit → Act → World → Prop} {a : Act} {w : World} {c x y : Code} {ops : Array Oper}
theorem jI(h:c.wpG P Q a w)(τ:Nat→Question→Nat)(d:Nat):c.wpG P Q a (re w τ d):=fun b k cs Stop hb hc=>(h b k cs Stop hb hc).re τ d
theorem bQA{l:List Nat}(h:qX P ops l Q a w)(τ:Nat→Question→Nat)(d:Nat):qX P ops l Q a (re w τ d):=fun b k cs Stop hb hc=>(h b k cs Stop hb hc).re τ d
theorem vD(T:Tame P)(h:∀ τ d,c.wp P Q a (re w τ d)):c.wpG P Q a w:=by
 intro b k cs Stop hb hc;refine RunG.lone T fun τ d=>?_
 obtain⟨e,a',w',hq,harr⟩:=h τ d b k cs;have:=hc _ _ _ hq
 cases e with
 | normal=>exact⟨_,w',harr,rfl,this⟩
 | exit id=>obtain⟨k',hk',hG⟩:=this;exact⟨_,w',harr k' hk',rfl,hG⟩
 | ret=>obtain⟨todo,hs⟩:=harr;exact⟨_,w',hs,rfl,this todo⟩
 | goto l=>exact this.elim
 | panic ch=>exact this.elim
 | outgrown=>exact this.elim
theorem fG(T:Tame P)(h:x.wpG P (Exit.then (fun a' w'=>y.wpG P Q a' w') Q) a w):(Code.seq x y).wpG P Q a w:=by
 intro b k cs Stop hb hc;refine RunG.step T (fun w=>step_seq) ?_;refine h b (.code y::k) cs Stop hb fun e a' w' q=>?_
 cases e with
 | normal=>exact q b k cs Stop hb hc
 | exit id=>exact(hc _ _ _ q).push rfl (by simp)
 | ret=>exact(hc _ _ _ q).push (x:=.code y) rfl (by simp)
 | goto l=>exact hc _ _ _ q
 | panic ch=>exact hc _ _ _ q
 | outgrown=>exact hc _ _ _ q
theorem bN(T:Tame P){o:Operand}{t:Bool}(hc:a.eval o = .bool t)(h:(if t then x else y).wpG P Q a w):(Code.cond o x y).wpG P Q a w :=
 fun b k cs Stop hb hq=>RunG.step T (fun w=>step_cond hc) (h b k cs Stop hb hq)
theorem vI(T:Tame P){id:Nat}(h:qX P ops (List.range ops.size) Q a w):(Code.region id ops false).wpG P Q a w :=
 fun b k cs Stop hb hc=>RunG.step T (fun w=>step_region) (h b k cs Stop hb hc)
theorem vF(T:Tame P)(h:Q .normal a w):qX P ops [] Q a w:=fun _ _ _ _ _ hc=>RunG.step T (fun w=>step_region_end) (hc _ _ _ h)
end rules
theorem sBA{ops:Array Oper}{K:Act→World→Prop}(l l2:List Nat) :
 ∀(a:Act) (w:World),wpOps P ops (Exit.then K fun _ _ _=>False) l a w→∀(b:Frame) (k:List Item) (cs:List Frame),b.kind≠.early →
  ∃ a' w',K a' w'∧Steps P (lone (b.at a (.inRegion ops (l++l2)::k)) cs w) (lone (b.at a' (.inRegion ops l2::k)) cs w'):=by
 induction l with
 | nil=>exact fun a w h b k cs _=>⟨a,w,h,⟨0,rfl⟩⟩
 | cons i rest ih =>
   intro a w h b k cs hbk;simp only[wpOps]at h
   cases ho:ops[i]? with
   | none =>
     simp only[ho]at h;obtain⟨a',w',hq,harr⟩:=ih a w h b k cs hbk;have hs:=step_op_skip (P:=P) (b:=b) (a:=a) (k:=k) (cs:=cs) (w:=w) (ops:=ops) (i:=i) (rest:=rest++l2) (by simp[ho]);simp only[ho,Option.bind_none,Act.put]at hs;exact⟨a',w',hq,.head hs harr⟩
   | some o =>
     simp only[ho]at h;by_cases hw:Region.wanted o (yielded ops a.tmps)=true
     · simp only [hw, if_true] at h; rcases h with h | ⟨_, _, _, hq⟩
       case inr=>exact hq.elim
       simp only[Oper.wp,Oper.upon]at h;have hg:=stepG_op (P:=P) (b:=b) (k:=k) (cs:=cs) (w:=w) (rest:=rest++l2) ho hw;have hfin:∀ v,(b.at a (.inRegion ops (i::(rest++l2))::k)).finish v=b.at (a.put o.dst v) (.inRegion ops (rest++l2)::k):=by
        intro v;rw[Frame.finish_at,ho];rfl
       split at h
       · rename_i v w' hr;obtain⟨a',w'',hq,harr⟩:=ih _ _ h b k cs hbk;refine⟨a',w'',hq,.head (step_lone_go ?_) harr⟩;rw[List.cons_append,hg,← hfin];simp[stepG.apply,hr]
       · rename_i w' hr;obtain⟨a',w'',hq,harr⟩:=ih _ _ h b k cs hbk;refine⟨a',w'',hq,.head (step_lone_go ?_) harr⟩;rw[List.cons_append,hg,← hfin];simp[stepG.apply,hr]
       · rename_i d w' hr; obtain ⟨a', w'', hq, harr⟩ := ih _ _ h b k cs hbk; refine ⟨a', w'', hq, .head (step_lone_go ?_) harr⟩; have : ({ b.at a (.inRegion ops (i :: (rest ++ l2)) :: k) with defers := d :: a.defers } : Frame).finish undef =
             b.at ({ a with defers:=d::a.defers }.put o.dst undef) (.inRegion ops (rest++l2)::k):=by
           have:=Frame.finish_at b { a with defers:=d::a.defers } ops i (rest++l2) k undef;rw[ho]at this;exact this
         rw[List.cons_append,hg];simp only[stepG.apply,Sem.runT_eq,hr,GStep.bare_after];exact congrArg (fun fr=>GStep.go { frame:=fr,callers:=cs,status:=.running,dying:=none } w') this
       · rename_i f args w' hr; obtain ⟨e, w'', fr, hR, hsteps, _, hleave⟩ := h (b.at a (.inRegion ops (i :: (rest ++ l2)) :: k) :: cs); have henter : step P (lone (b.at a (.inRegion ops (i :: (rest ++ l2)) :: k)) cs w) =
             .next (lone (Frame.enter P f args .normal) (b.at a (.inRegion ops (i::(rest++l2))::k)::cs) w') :=
           step_lone_go (by rw[hg];simp[stepG.apply,hr,Frame.at])
         cases e with
         | returned v =>
           obtain⟨a',w₃,hq,harr⟩:=ih _ _ hR b k cs hbk;refine⟨a',w₃,hq,.head henter (hsteps.trans (.head ?_ harr))⟩;rw[← hfin];exact step_leave_returned hleave
         | panicked chain=>exact hR.elim
         | outgrown=>obtain⟨_,_,hq⟩:=hR;exact hq.elim
       · rename_i row args w' hr; obtain ⟨v, w'', hR, hsteps⟩ := h (b.at a (.inRegion ops (i :: (rest ++ l2)) :: k)) cs; have henter : step P (lone (b.at a (.inRegion ops (i :: (rest ++ l2)) :: k)) cs w) =
             .next (lone (Frame.ofRow P row args .normal) (b.at a (.inRegion ops (i::(rest++l2))::k)::cs) w') :=
           step_lone_go (by rw[hg];simp[stepG.apply,hr,Frame.at])
         obtain⟨a',w₃,hq,harr⟩:=ih _ _ hR b k cs hbk;refine⟨a',w₃,hq,.head henter (Steps.trans ?_ harr)⟩;rw[← hfin];exact hsteps
       · exact h.elim
       · exact h.elim
     · simp only [hw, if_false, Bool.false_eq_true] at h; obtain ⟨a', w', hq, harr⟩ := ih _ _ h b k cs hbk; have hs := step_op_skip (P := P) (b := b) (a := a) (k := k) (cs := cs) (w := w) (ops := ops) (i := i) (rest := rest ++ l2)
         (by simp[ho];simpa using hw)
       simp only[ho,Option.bind_some]at hs;exact⟨a',w',hq,.head hs harr⟩
theorem pEA (T : Tame P) {Q : Exit → Act → World → Prop} {a : Act} {w : World} {ops : Array Oper} (l l2 : List Nat)
    (h:∀ τ d,wpOps P ops (Exit.then (fun a' w'=>qX P ops l2 Q a' w') fun _ _ _=>False) l a (re w τ d)):qX P ops (l++l2) Q a w:=by
  intro b k cs Stop hb hc;refine RunG.lone T fun τ d=>?_
  obtain⟨a',w',hK,hs⟩:=sBA l l2 a _ (h τ d) b k cs hb;exact⟨_,w',hs,rfl,hK b k cs Stop hb hc⟩
theorem mBA{ops:Array Oper}{Q:Exit→Act→World→Prop}(l:List Oper):∀ k,(∀ j,j < l.length→l[j]? = ops[k+j]?)→wpOps P ops Q (List.range' k l.length)=wpList P ops Q l:=by
 induction l with
 | nil=>intro k _;funext a w;simp[wpOps,wpList]
 | cons o l ih =>
   intro k h;have h0:ops[k]? = some o:=by simpa using (h 0 (by simp)).symm
   have ih':=ih (k+1) (fun j hj=>by have:=h (j+1) (by simpa using hj);simpa [Nat.add_assoc,Nat.add_comm 1 j] using this);funext a w
   simp only[List.length_cons,List.range'_succ,wpOps,h0,wpList,ih']
theorem yS (T : Tame P) {Q : Exit → Act → World → Prop} {a : Act} {w : World} {id : Nat} {ops : Array Oper} (n : Nat) (hn : n ≤ ops.size)
    (h:∀ τ d,wpList P ops (Exit.then (fun a' w'=>qX P ops (List.range' n (ops.size - n)) Q a' w') fun _ _ _=>False) (ops.toList.take n) a (re w τ d)):(Code.region id ops false).wpG P Q a w:=by
  refine vI T ?_;have e:List.range ops.size=List.range' 0 n++List.range' n (ops.size - n):=by
   have:=List.range'_append_1 (s:=0) (m:=n) (n:=ops.size - n);rw[Nat.zero_add]at this;rw[List.range_eq_range',this,Nat.add_sub_cancel' hn]
  rw[e];refine pEA T _ _ fun τ d=>?_
  have hl:(ops.toList.take n).length=n:=by simp;omega
  have := mBA (P := P) (ops := ops) (Q := Exit.then (fun a' w' => qX P ops (List.range' n (ops.size - n)) Q a' w') fun _ _ _ => False) (ops.toList.take n) 0 (fun j hj => by
    rw[hl]at hj;rw[List.getElem?_take_of_lt hj];simp)
  rw[hl]at this;rw[this];exact h τ d
theorem jE (T : Tame P) {Q : Exit → Act → World → Prop} {a : Act} {w : World} {ops : Array Oper} (k n m : Nat) (hn : k + n ≤ ops.size)
    (h:∀ τ d,wpList P ops (Exit.then (fun a' w'=>qX P ops (List.range' (k+n) m) Q a' w') fun _ _ _=>False) ((ops.toList.drop k).take n) a (re w τ d)):qX P ops (List.range' k (n+m)) Q a w:=by
  have e:List.range' k (n+m)=List.range' k n++List.range' (k+n) m:=by rw[List.range'_append_1]
  rw[e];refine pEA T _ _ fun τ d=>?_
  have hl:((ops.toList.drop k).take n).length=n:=by simp;omega
  have := mBA (P := P) (ops := ops) (Q := Exit.then (fun a' w' => qX P ops (List.range' (k + n) m) Q a' w') fun _ _ _ => False) ((ops.toList.drop k).take n) k (fun j hj => by
    rw[hl]at hj;rw[List.getElem?_take_of_lt hj,List.getElem?_drop];simp)
  rw[hl]at this;rw[this];exact h τ d
def CallsG(P:Program)(f:FuncId)(args:Array Value)(w:World)(Post:Value→World→Prop):Prop :=
 ∀ cs,RunG P (fun g' w'=>∃ v fr,g'=G fr cs∧fr.fn=f∧(∀ τ d,fr.leaving P (re w' τ d) (.returned v))∧Post v w') (G (Frame.enter P f args .normal) cs) w
theorem CallsG.mono{f:FuncId}{args:Array Value}{w:World}{Post Post':Value→World→Prop}(h:CallsG P f args w Post)(hp:∀ v w,Post v w→Post' v w):CallsG P f args w Post' :=
 fun cs=>(h cs).mono fun _ _ ⟨v,fr,h1,h1',h2,h3⟩=>⟨v,fr,h1,h1',h2,hp _ _ h3⟩
theorem CallsG.re{f:FuncId}{args:Array Value}{w:World}{Post:Value→World→Prop}(h:CallsG P f args w Post)(τ:Nat→Question→Nat)(d:Nat):CallsG P f args (Lx.re w τ d) Post:=fun cs=>(h cs).re τ d
theorem qH (T : Tame P) {Q : Exit → Act → World → Prop} {a : Act} {w : World} {ops : Array Oper} {i : Nat} {rest : List Nat} {o : Oper} {f : FuncId} {args : Array Value} {Post : Value → World → Prop}
    (ho:ops[i]? = some o) (hw:Region.wanted o (yielded ops a.tmps)=true) (hr:∀ w,(execOp a.eval o).run P w = .ok (.enter f args) w)
    (hcall:CallsG P f args w Post) (hnext:∀ v w',Post v w'→qX P ops rest Q (a.put o.dst v) w'):qX P ops (i::rest) Q a w:=by
  intro b k cs Stop hb hc;refine RunG.step T (fr':=Frame.enter P f args .normal) (cs':=b.at a (.inRegion ops (i::rest)::k)::cs) (fun w=>?_) ?_
  · exact step_lone_go (by rw[stepG_op ho hw];simp[stepG.apply,hr,Frame.at])
  · refine (hcall _).trans ?_; rintro g' w' ⟨v, fr, rfl, _, hl, hp⟩; refine RunG.lone T fun τ d => ⟨G (b.at (a.put o.dst v) (.inRegion ops rest :: k)) cs, Lx.re w' τ d, .one ?_, rfl, (hnext v w' hp b k cs Stop hb hc).re τ d⟩
    have:=step_leave_returned (c:=b.at a (.inRegion ops (i::rest)::k)) (cs:=cs) (hl τ d);rw[Frame.finish_at,ho]at this;exact this
def bP (P : Program) (fn : Func) (Post : Value → World → Prop) : Exit → Act → World → Prop
  | .normal,a,w | .ret,a,w=>a.defers=[]∧∃ v,(∀ τ d,(results fn a.tmps).run P (re w τ d) = .ok v (re w τ d))∧Post v w
  | _,_,_=>False
theorem nI (T : Tame P) {f : FuncId} {fn : Func} {c : Code} {args : Array Value} {w : World} {Post : Value → World → Prop} (hf : P.funcs[f]? = some fn) (hb : fn.body = some c)
    (h:c.wpG P (bP P fn Post) { tmps:=args++Array.replicate (fn.ntmps - args.size) undef,defers:=[] } w) (hPost:∀ v w τ d,Post v w→Post v (re w τ d)):CallsG P f args w Post:=by
  intro cs
  let b:Frame:={ (default:Frame) with fn:=f,kind:=.normal }
  have henter:Frame.enter P f args .normal=b.at { tmps:=args++Array.replicate (fn.ntmps - args.size) undef,defers:=[] } [.code c]:=by
   simp[Frame.enter,Frame.at,hf,hb,b]
  rw[henter];have fin:∀(a':Act) (w':World) (todo:List Item),(a'.defers=[]∧∃ v,(∀ τ d,(results fn a'.tmps).run P (re w' τ d) = .ok v (re w' τ d))∧Post v w') →
   RunG P (fun g' w'=>∃ v fr,g'=G fr cs∧fr.fn=f∧(∀ τ d,fr.leaving P (re w' τ d) (.returned v))∧Post v w') (G { b.at a' todo with mode:=.returning } cs) w':=by
   rintro a' w' todo ⟨hd,v,hr,hp⟩;exact RunG.stop fun τ d=>⟨v,_,rfl,rfl,fun τ' d'=>⟨rfl,hd,rfl,fn,hf,hr τ' d'⟩,hPost _ _ _ _ hp⟩
  refine h b [] cs _ (by simp[b]) fun e a' w' q=>?_
  cases e with
  | normal=>exact RunG.step T (fun w=>step_end) (fin a' w' [] q)
  | ret=>exact fun todo=>fin a' w' todo q
  | exit id=>exact q.elim
  | goto l=>exact q.elim
  | panic ch=>exact q.elim
  | outgrown=>exact q.elim
end Go.Lx
