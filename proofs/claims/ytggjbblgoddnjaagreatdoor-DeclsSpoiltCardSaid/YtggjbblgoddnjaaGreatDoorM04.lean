/- Part 4 of what the proof rests on. -/
import Derived.Conc.DeferLaws
import Derived.Conc.AppendWalk
import Derived.Tactics
import Derived.Conc.LeavingOf
import Derived.Laws.IdiomCopy
import Derived.Lib.SlicesS
import Derived.OrdersHeld
import Derived.Deep.RegionHeld
import Derived.Conc.CompanyMem
import Derived.Conc.WalkWords
import Derived.KernelRfl
import Derived.Deep.Slices
import Derived.Deep.Fields
import Derived.WideKeyArgs
import Derived.OpenShut
import Derived.SevenTiedAt
import Derived.SizedLaws
import Derived.Test.YtggjbblgoddnjaaGreatDoorM00
import Derived.Test.YtggjbblgoddnjaaGreatDoorM01
import Derived.Test.YtggjbblgoddnjaaGreatDoorM03
set_option linter.unusedSimpArgs false
set_option linter.unusedVariables false
namespace Go.Lx
open Go.Conc
section
variable {P : Program} {main : Bool} {R : World → World → Prop} {D : World → World → Array Event → Prop} {Stop : Goroutine → World → Prop} {m : Nat} {b : Frame} {a : Act} {k : List Item} {cs : List Frame} {w : World}
theorem wE(T:Terms R D){x y:Code}(h:Goes P main R D Stop m (G (b.at a (.code x :: .code y::k)) cs) w):Goes P main R D Stop (m+1) (G (b.at a (.code (.seq x y)::k)) cs) w :=
 Goes.step rfl fun w₁ h₁=>by rw[stepG_seq];exact⟨T.idle _,h.rely T.trans h₁⟩
theorem eT(T:Terms R D){id:Nat}{c:Code}(h:Goes P main R D Stop m (G (b.at a (.code c :: .inBlock id::k)) cs) w):Goes P main R D Stop (m+1) (G (b.at a (.code (.block id c)::k)) cs) w :=
 Goes.step rfl fun w₁ h₁=>by rw[stepG_block];exact⟨T.idle _,h.rely T.trans h₁⟩
theorem gAA(T:Terms R D){id:Nat}(h:Goes P main R D Stop m (G (b.at a k) cs) w):Goes P main R D Stop (m+1) (G (b.at a (.inBlock id::k)) cs) w :=
 Goes.step rfl fun w₁ h₁=>by rw[stepG_inBlock];exact⟨T.idle _,h.rely T.trans h₁⟩
theorem vKA(T:Terms R D){c:Code}(h:Goes P main R D Stop m (G (b.at a (.code c :: .inLoop c::k)) cs) w):Goes P main R D Stop (m+1) (G (b.at a (.code (.loop c)::k)) cs) w :=
 Goes.step rfl fun w₁ h₁=>by rw[stepG_loop];exact⟨T.idle _,h.rely T.trans h₁⟩
theorem kW(T:Terms R D){c:Code}(h:Goes P main R D Stop m (G (b.at a (.code c :: .inLoop c::k)) cs) w):Goes P main R D Stop (m+1) (G (b.at a (.inLoop c::k)) cs) w :=
 Goes.step rfl fun w₁ h₁=>by rw[stepG_inLoop];exact⟨T.idle _,h.rely T.trans h₁⟩
theorem vTA(T:Terms R D){c:Code}(h:Goes P main R D Stop m (G (b.at a (.code c :: .inScope c::k)) cs) w):Goes P main R D Stop (m+1) (G (b.at a (.code (.scope c)::k)) cs) w :=
 Goes.step rfl fun w₁ h₁=>by rw[gNA];exact⟨T.idle _,h.rely T.trans h₁⟩
theorem hLA(T:Terms R D){c:Code}(h:Goes P main R D Stop m (G (b.at a k) cs) w):Goes P main R D Stop (m+1) (G (b.at a (.inScope c::k)) cs) w :=
 Goes.step rfl fun w₁ h₁=>by rw[vIA];exact⟨T.idle _,h.rely T.trans h₁⟩
theorem y3A(T:Terms R D)(h:Goes P main R D Stop m (G { b.at a [] with mode:=.returning } cs) w):Goes P main R D Stop (m+1) (G (b.at a []) cs) w :=
 Goes.step rfl fun w₁ h₁=>by rw[stepG_end];exact⟨T.idle _,h.rely T.trans h₁⟩
theorem zK(T:Terms R D){id:Nat}{ops:Array Oper}(h:Goes P main R D Stop m (G (b.at a (.inRegion ops (List.range ops.size)::k)) cs) w):Goes P main R D Stop (m+1) (G (b.at a (.code (.region id ops false)::k)) cs) w :=
 Goes.step rfl fun w₁ h₁=>by rw[stepG_region];exact⟨T.idle _,h.rely T.trans h₁⟩
theorem yE {fn : FuncId} {c : Code} {n : Nat} {Q : Exit → Act → World → Prop} (h : c.wpC P main R D fn n Q a w) (hb : b.fn = fn) (hk : b.kind ≠ .early)
    (hc:∀ e a' w',Q e a' w'→After P main R D Stop m b k cs e a' w'):Goes P main R D Stop (m+n) (G (b.at a (.code c::k)) cs) w:=h b k cs Stop m hb hk hc
theorem xR {fn : FuncId} {ops : Array Oper} {todo : List Nat} {n : Nat} {Q : Exit → Act → World → Prop} (h : OpsC P main R D fn ops todo n Q a w) (hb : b.fn = fn) (hk : b.kind ≠ .early)
    (hc:∀ e a' w',Q e a' w'→After P main R D Stop m b k cs e a' w'):Goes P main R D Stop (m+n) (G (b.at a (.inRegion ops todo::k)) cs) w:=h b k cs Stop m hb hk hc
theorem fAA {ops : Array Oper} {i : Nat} {rest : List Nat} {o : Oper} (ho : ops[i]? = some o) (hw : Region.wanted o (yielded ops a.tmps) = true) (hk : b.kind ≠ .early)
    (h:∀ w₁,R w w₁→∀ K:Act→World→Prop,(∀ a' w',D w₁ w' (listed P b.fn a o w₁)∧Goes P main R D Stop m (G (b.at a' (.inRegion ops rest::k)) cs) w'→K a' w')→uponK o a K ((execOp a.eval o).run P w₁)) :
    Goes P main R D Stop (m+1) (G (b.at a (.inRegion ops (i::rest)::k)) cs) w :=
  Goes.step rfl fun w₁ h₁=>goes_oper_k ho hw hk fun K' hK'=>h w₁ h₁ K' fun a' w' x=>hK' a' w' x
theorem pKA(h:∀ w₁,R w w₁→Stop (G (b.at a k) cs) w₁):Goes P main R D Stop 0 (G (b.at a k) cs) w:=h
end
theorem hVA {P : Program} {main : Bool} {R : World → World → Prop} {D : World → World → Array Event → Prop} (T : Terms R D) {Stop : Goroutine → World → Prop} {m : Nat} {b : Frame} {a : Act} {k : List Item} {cs : List Frame} {w : World}
    {ops:Array Oper} {i:Nat} {rest:List Nat} {o:Oper} {dd:Deferred} (ho:ops[i]? = some o) (hw:Region.wanted o (yielded ops a.tmps)=true) (hk:b.kind≠.early)
    (hr:∀ w,(execOp a.eval o).run P w = .ok (.defer dd) w) (he:∀ w,(execOp a.eval o).events P w #[]=#[])
    (h:Goes P main R D Stop m (G (b.at (Act.put ⟨a.tmps,dd::a.defers⟩ o.dst undef) (.inRegion ops rest::k)) cs) w):Goes P main R D Stop (m+1) (G (b.at a (.inRegion ops (i::rest)::k)) cs) w:=by
  refine Goes.step rfl fun w₁ h₁=>?_
  have hs:stepG P main (G (b.at a (.inRegion ops (i::rest)::k)) cs) w₁ = .go (G (b.at (Act.put ⟨a.tmps,dd::a.defers⟩ o.dst undef) (.inRegion ops rest::k)) cs) w₁ #[]:=by
   have hk':(b.kind==CallKind.early)=false:=by simpa using hk
   have hfin:({ b.at a (.inRegion ops (i::rest)::k) with defers:=dd::a.defers }:Frame).finish undef=b.at (Act.put ⟨a.tmps,dd::a.defers⟩ o.dst undef) (.inRegion ops rest::k):=by
    have:=Frame.finish_at b { a with defers:=dd::a.defers } ops i rest k undef;rw[ho]at this;exact this
   have hl:seen P b.fn #[]=#[]:=seen_none P _;rw[stepG_oper ho hw,← hfin];simp[stepG.apply,hr,he,hl,G,Frame.at,hk',GStep.after]
  rw[hs];exact⟨T.idle _,h.rely T.trans h₁⟩
def oK(c:Nat)(ats:Array TypeId)(ty:TypeId)(bs:Array Bool):Deferred:={ target:=.builtin .close ats ty bs,args:=#[.chan (some c)] }
theorem dAA {P : Program} {main : Bool} {b : Frame} {tmps : Array Value} {c : Nat} {ats : Array TypeId} {ty : TypeId} {bs : Array Bool} {ds : List Deferred} {todo : List Item} {cs : List Frame} {w : World}
    {cap s r:Nat} {buf:Array Value} {tm:Bool} (hc:w.heap[c]? = some (.chan cap buf false s r tm)) (hq:(P.funcs[b.fn]?).any (·.norace)=false) :
    stepG P main (G { b.at ⟨tmps,oK c ats ty bs::ds⟩ todo with mode:=.returning } cs) w = .go (G { b.at ⟨tmps,ds⟩ todo with mode:=.returning } cs) (w.setChan c cap buf true s r tm) #[⟨.obj c,false,true⟩,⟨.obj c,true,true⟩]:=by
  have hr:(invoke (oK c ats ty bs).target (oK c ats ty bs).args).run P w = .ok (.value (.tuple #[])) (w.setChan c cap buf true s r tm):=by
   simp[oK,invoke,builtin,run_close_open _ _ hc,World.setChan]
  have he:(invoke (oK c ats ty bs).target (oK c ats ty bs).args).events P w #[]=#[⟨.obj c,false,true⟩,⟨.obj c,true,true⟩]:=by
   simp[oK,invoke,builtin,events_close_open _ _ hc]
  have hs:seen P b.fn #[⟨.obj c,false,true⟩,⟨.obj c,true,true⟩]=#[⟨.obj c,false,true⟩,⟨.obj c,true,true⟩]:=seen_eq hq (by intro e he f;simp at he;rcases he with rfl | rfl<;>simp);simp only[oK]at hr he;simp[G,stepG,unwind,callDeferred,Frame.at,oK,hr,he,hs,GStep.after]
variable {d : Deal} {T : TypeId → Prop} {o : Option Nat} {w w' w₁ : World}
theorem Turn.draw(w:World):Turn d T o w w.drew:=⟨rfl,rfl,rfl,Nat.le_refl _,fun _ _ _=>rfl,fun _ _ _ cs _ fz h=>⟨cs,fz,h⟩,fun _ _ h=>h,fun b h1 h2=>absurd h2 (by show ¬ b < w.heap.size;omega)⟩
theorem Turn.row{g:Nat}{cur cs:Array Value}{ty:TypeId}{fz:Nat×Nat}(ho:Own d T o w g)(hg:w.heap[g]? = some (.cells cur ty fz)):Turn d T o w (w.setRow g cs):=by
 have hsz:(w.setRow g cs).heap.size=w.heap.size:=by simp[World.setRow]
 refine⟨rfl,rfl,rfl,by rw[hsz];exact Nat.le_refl _,fun b hb hno=>setRow_other w g b cs fun e=>hno (e▸ho),fun b hb _ c t f hc=>?_,fun b hbo hn c t f=>?_,fun b h1 h2=>absurd h2 (by rw[hsz];omega)⟩
 · by_cases e : b = g
   · subst e; rw [hg] at hc
     cases hc;exact⟨_,_,setRow_heap w b cur cs ty fz hg⟩
   · exact⟨c,f,by rw[setRow_other w g b cs e];exact hc⟩
 · by_cases e : b = g
   · subst e;exact absurd hg (hn _ _ _)
   · rw[setRow_other w g b cs e];exact hn c t f
theorem yNA {P : Program} (w : World) (t ty e : TypeId) (i : TypeInfo) (z : Value) (size bytes : Nat) (ht : P.underlying t = some (.slice e)) (hi : P.info? e = some i) (hz : i.zero = some z)
    (hsize:i.size=size) (hby:i.bytes=bytes) (hzs:z.cells.size=size) (hsz:0 < size)
    (v:Value) (n:Nat) (xs:List Value) (hown:w.ownsRow d.B e size v n xs)
    (a:Addr) (m c:Nat) (news:List Value) (hm:0 < m) (hl:news.length=m * size) (hnews:∀ j u,news[j]? = some u→w.cell? (a.add j)=some u) (h1:∀ u∈news,u.oneCell'=true)
    (h63:n+m≤maxLen) (hbytes:(n+m) * bytes≤140737488355328) (hT:T e) (hB:d.B≤w.heap.size) (hbox:∀ b,o=some b→b < w.heap.size) :
    ∃ v' w',(Builtin.append_ #[t,t] ty #[v,.slice (some a) m c]).run P w = .ok v' w'∧w'.ownsRow d.B e size v' (n+m) (xs++news)∧w.grownBy w' v.ownBlock∧Turn d T o w w':=by
  obtain⟨v',w',hr,ho',hg,_⟩:=run_append_own (P:=P) w d.B t ty e i z size bytes ht hi hz hsize hby hzs hsz v n xs hown a m c news hl hnews h1 h63 hbytes hB;refine⟨v',w',hr,ho',hg,?_⟩;subst hsize hby;have hsmall:n+m≤9223372036854775807:=by simp only[maxLen]at h63;omega
  rcases hown.2 with⟨rfl,rfl⟩ | ⟨g,cap,cur,rfl,hbg,hgg,hnc,hcm,hcs,htake⟩
  · rw [run_append_nil (P := P) w t ty e i z ht hi hz a m c news hl hnews hm (by omega) (by have hb := hbytes; simp only [Nat.zero_add] at hb; omega)] at hr
    cases hr;exact(Turn.draw w).trans (Turn.alloc hT hbox) hB
  · by_cases hroom : n + m ≤ cap
    · have hfit : n * i.size + news.length ≤ cur.size := by rw [hl, hcs, ← Nat.add_mul]; exact Nat.mul_le_mul_right _ hroom
      rw[run_append_room (P:=P) w t ty e i ht hi g n cap cur hgg a m c news hl hnews h1 hroom hfit]at hr
      cases hr;exact Turn.row (.inl ⟨hbg,cur,e,_,hgg,hT⟩) hgg
    · have holds : ∀ j u, xs[j]? = some u → w.cell? ((⟨g, 0, none⟩ : Addr).add j) = some u := hown.cells (g := g) rfl; rw [run_append_grow (P := P) w t ty e i z ht hi hz ⟨g, 0, none⟩ n cap xs hown.1 holds a m c news hl hnews (by omega) (by omega) (growslice_fits (by omega) hbytes)] at hr
      cases hr;exact(Turn.draw w).trans (Turn.alloc hT hbox) hB
theorem bNA{e:TypeId}{size n:Nat}{v:Value}{xs:List Value}(hT:T e)(h:w.ownsRow d.B e size v n xs)(r:Rely d T o w w₁):w₁.ownsRow d.B e size v n xs:=by
 refine⟨h.1,?_⟩;rcases h.2 with hn | ⟨g,cap,cur,rfl,hb,hg,rest⟩
 · exact .inl hn
 · exact .inr ⟨g,cap,cur,rfl,hb,by rw[r.own g (.inl ⟨hb,cur,e,_,hg,hT⟩)];exact hg,rest⟩
theorem qRA{e:TypeId}{size n:Nat}{v:Value}{xs:List Value}(hT:T e)(h:w.ownsRow d.B e size v n xs){b:Nat}(hb:v.ownBlock=some b):Own d T o w b∧b < w.heap.size:=by
 rcases h.2 with⟨rfl,_⟩ | ⟨g,cap,cur,rfl,hbb,hg,_⟩
 · cases hb
 · cases hb;exact⟨.inl ⟨hbb,cur,e,_,hg,hT⟩,(Array.getElem?_eq_some_iff.1 hg).1⟩
structure Low (d:Deal) (w0 w:World):Prop where
 os:w.os=w0.os
 output:w.output=w0.output
 size:w0.heap.size≤w.heap.size
 block:∀ b,b < d.B→b≠d.c→w.heap[b]? = w0.heap[b]?
theorem Low.refl(w:World):Low d w w:=⟨rfl,rfl,Nat.le_refl _,fun _ _ _=>rfl⟩
theorem Low.rely{w0:World}(h:Low d w0 w)(r:Rely d T o w w₁):Low d w0 w₁ :=
 ⟨r.os.trans h.os,r.output.trans h.output,Nat.le_trans h.size r.size,fun b hb hc=>(r.low b hb hc).trans (h.block b hb hc)⟩
theorem Low.turn{w0:World}(h:Low d w0 w)(r:Turn d T o w w')(hB:d.B≤w.heap.size)(hbox:∀ b,o=some b→d.B≤b):Low d w0 w' :=
 ⟨r.os.trans h.os, r.output.trans h.output, Nat.le_trans h.size r.size, fun b hb hc => (r.rest b (by omega) (by
   rintro(⟨h1,_⟩ | h1)
   · omega
   · have:=hbox b h1;omega)).trans (h.block b hb hc)⟩
structure MH (d:Deal) (T:TypeId→Prop) (e:TypeId) (size:Nat) (L:List (Nat×Obj)) (w0:World) (v:Value) (n:Nat) (xs:List Value) (o:Option Nat) (w:World):Prop where
 holds:Holds d T o L w
 own:w.ownsRow d.B e size v n xs
 low:Low d w0 w
 typ:T e
 boxB:∀ b,o=some b→d.B≤b
variable {e : TypeId} {size n : Nat} {L L' : List (Nat × Obj)} {w0 : World} {v : Value} {xs : List Value}
theorem MH.rely(h:MH d T e size L w0 v n xs o w)(r:Rely d T o w w₁):MH d T e size L w0 v n xs o w₁:=⟨h.holds.rely r,bNA h.typ h.own r,h.low.rely r,h.typ,h.boxB⟩
theorem MH.cons(h:MH d T e size L w0 v n xs o w)(cs:Array Value){ty:TypeId}(ht:T ty):MH d T e size ((w.heap.size,Obj.cells cs ty (0,0))::L) w0 v n xs o (w.alloc (.cells cs ty)) :=
 ⟨h.holds.cons cs ht,h.own.alloc _,h.low.turn (Turn.alloc ht h.holds.box) h.holds.big h.boxB,h.typ,h.boxB⟩
theorem MH.weak(h:MH d T e size L w0 v n xs o w)(hL:∀ p∈L',p∈L):MH d T e size L' w0 v n xs o w:=⟨h.holds.weak hL,h.own,h.low,h.typ,h.boxB⟩
theorem MH.boxed{tb:TypeId}(h:MH d T e size L w0 v n xs o w)(cs:Array Value):MH d T e size [(w.heap.size,Obj.cells cs tb (0,0))] w0 v n xs (some w.heap.size) (w.alloc (.cells cs tb)) :=
 ⟨h.holds.boxed fun p hp => .inl (by simpa using hp), h.own.alloc _, ⟨h.low.os, h.low.output, Nat.le_trans h.low.size (by simp), fun b hb hc => by
   rw[heap_alloc_old w _ (Nat.lt_of_lt_of_le hb h.holds.big)];exact h.low.block b hb hc⟩,h.typ,fun b hb=>by cases hb;exact h.holds.big⟩
theorem MH.set4{xb:Nat}{x0 x1 x2 x3:Value}{tb:TypeId}(h:MH d T e size [(xb,Obj.cells #[x0,x1,x2,x3] tb (0,0))] w0 v n xs (some xb) w)(hv:v.ownBlock≠some xb)(v0 v1 v2 v3:Value) :
 MH d T e size [(xb,Obj.cells #[v0,v1,v2,v3] tb (0,0))] w0 v n xs (some xb) ((((w.setCell ⟨xb,0,none⟩ v0).setCell ⟨xb,1,none⟩ v1).setCell ⟨xb,2,none⟩ v2).setCell ⟨xb,3,none⟩ v3):=by
 have hlt:=h.holds.lt (List.mem_singleton.2 rfl);refine⟨h.holds.set4 (by simp) v0 v1 v2 v3,?_,h.low.turn (Turn.set4 h.holds.boxOwn hlt h.holds.big v0 v1 v2 v3) h.holds.big h.boxB,h.typ,h.boxB⟩;refine⟨h.own.1,?_⟩;rcases h.own.2 with hn | ⟨g,cap,cur,rfl,hb,hg,rest⟩
 · exact .inl hn
 · have hne : g ≠ xb := fun e => hv (by simp [Value.ownBlock, e])
   refine .inr ⟨g,cap,cur,rfl,hb,?_,rest⟩;rw[heap_set _ _ _ _ hne,heap_set _ _ _ _ hne,heap_set _ _ _ _ hne,heap_set _ _ _ _ hne];exact hg
theorem sOA{ev:Event}{ad:Addr}(h:ev.loc = .cell ad)(ho:Own d T o w ad.block):wY d T o w ev:=by
 obtain⟨loc,wr,sy⟩:=ev;simp only at h;subst h;refine⟨fun y hy _=>?_,by simp,by simp⟩;simp[MemAct.ofEvent,MemAct.touch?]at hy;subst hy;exact⟨ad,rfl,.inl ho⟩
theorem xXA{m:Mark}(h:Neutral m):wY d T o w ⟨.mark m,false,true⟩:=by
 unfold Neutral at h;subst h;exact⟨fun y hy _=>by simp[MemAct.ofEvent,MemAct.touch?]at hy,by simp,by simp⟩
variable {P : Program}
theorem y8A(T:Tame P):∀(n:Nat) {g g1:Goroutine} {w w1:World},GOk g→g.status = .running→g1.status = .running→runN P n (solo g w) = .next (solo g1 w1)→GOk g1:=by
 intro n
 induction n with
 | zero =>
   intro g g1 w w1 hg _ _ h;simp only[runN,Stepped.next.injEq,solo,Machine.mk.injEq]at h;obtain⟨_,e,_⟩:=h;have e:g=g1:=by simpa using e
   subst e;exact hg
 | succ n ih =>
   intro g g1 w w1 hg hr h1 h;obtain⟨g',w',hg',hr',_,_,hn⟩:=cZ T hg hr h1 h;exact ih hg' hr' h1 hn
def Fits(Stop:Goroutine→World→Prop)(g:Goroutine)(w:World):Prop:=GOk g∧g.status = .running∧Stop g w
def RunG(P:Program)(Stop:Goroutine→World→Prop)(g:Goroutine)(w:World):Prop :=
 GOk g→g.status = .running→∀ τ d gs sl t q,gs[0]? = some g→Leavers P t gs q→Kn t→Gets P (Fits Stop) gs (re w τ d) sl t
section
variable {Stop S1 S2 : Goroutine → World → Prop} {g : Goroutine} {w : World}
theorem RunG.re(h:RunG P Stop g w)(τ:Nat→Question→Nat)(d:Nat):RunG P Stop g (re w τ d):=fun hg hr τ' d'=>h hg hr τ' d'
theorem RunG.stop(h:∀ τ d,Stop g (Lx.re w τ d)):RunG P Stop g w:=fun hg hr τ d gs sl t q h0 hL hK=>⟨0,gs,g,Lx.re w τ d,sl,t,q,rfl,h0,⟨hg,hr,h τ d⟩,hL,hK⟩
theorem RunG.trans(h:RunG P S1 g w)(h2:∀ g' w',S1 g' w'→RunG P S2 g' w'):RunG P S2 g w:=fun hg hr τ d gs sl t q h0 hL hK =>
 (h hg hr τ d gs sl t q h0 hL hK).trans fun gs' g' w' sl' t' q' h0' hS hL' hK'=>h2 g' w' hS.2.2 hS.1 hS.2.1 w'.tape w'.drawn gs' sl' t' q' h0' hL' hK'
theorem RunG.mono(h:RunG P S1 g w)(h2:∀ g' w',S1 g' w'→S2 g' w'):RunG P S2 g w:=fun hg hr τ d gs sl t q h0 hL hK=>by
 obtain⟨N,gs',g',w',sl',t',q',e,h1,hS,hL',hK'⟩:=h hg hr τ d gs sl t q h0 hL hK;exact⟨N,gs',g',w',sl',t',q',e,h1,⟨hS.1,hS.2.1,h2 _ _ hS.2.2⟩,hL',hK'⟩
theorem RunG.lone(T:Tame P)(h:∀ τ d,∃ g1 w1,Steps P (solo g (Lx.re w τ d)) (solo g1 w1)∧g1.status = .running∧RunG P Stop g1 w1):RunG P Stop g w:=by
 intro hg hr τ d gs sl t q h0 hL hK;have hl:LoneOk P (Fits (RunG P Stop)) g (Lx.re w τ d):=fun τ' d'=>by
  rw[gBB];obtain⟨g1,w1,⟨n,hn⟩,hr1,hG⟩:=h τ' d';exact⟨n,g1,w1,hn,hr1,y8A T n hg hr hr1 hn,hr1,hG⟩
 have he:=pLA T (fun g w τ d h=>⟨h.1,h.2.1,h.2.2.re τ d⟩) hg hr hl;exact(beside he h0 hL hK).gets.trans fun gs' g' w' sl' t' q' h0' hS hL' hK'=>hS.2.2 hS.1 hS.2.1 w'.tape w'.drawn gs' sl' t' q' h0' hL' hK'
theorem RunG.step{fr fr':Frame}{cs cs':List Frame}(T:Tame P)(h:∀ w,Go.step P (Go.lone fr cs w) = .next (Go.lone fr' cs' w))(hG:RunG P Stop (G fr' cs') w):RunG P Stop (G fr cs) w :=
 RunG.lone T fun τ d=>⟨G fr' cs',Lx.re w τ d,.one (h _),rfl,hG.re τ d⟩
theorem RunG.phase{X:Shared}{ms:List MAct}{ss:List SAct}(h:∀ τ d,AtGo X ms ss g (Lx.re w τ d))(hf:GOk g→∀ g' w',X.Fin g' w'→GOk g'∧g'.status = .running):RunG X.P X.Fin g w:=by
 intro hg hr τ d gs sl t q h0 hL hK;obtain⟨N,gs',g',w',sl',t',q',e,h1,hS,hL',hK'⟩:=Lx.phase (h τ d) h0 hL hK (sl:=sl);exact⟨N,gs',g',w',sl',t',q',e,h1,⟨(hf hg _ _ hS).1,(hf hg _ _ hS).2,hS⟩,hL',hK'⟩
end
def AfterG (P : Program) (Stop : Goroutine → World → Prop) (b : Frame) (k : List Item) (cs : List Frame) : Exit → Act → World → Prop
  | .normal,a,w=>RunG P Stop (G (b.at a k) cs) w
  | .exit id,a,w=>∃ k',exitTo id k=some k'∧RunG P Stop (G (b.at a k') cs) w
  | .ret,a,w=>∀ todo,RunG P Stop (G { b.at a todo with mode:=.returning } cs) w
  | _,_,_=>False
theorem AfterG.push {Stop : Goroutine → World → Prop} {b : Frame} {x : Item} {k : List Item} {cs : List Frame} {e : Exit} {a : Act} {w : World} (hx : x.plain = true) (he : e ≠ .normal)
    (h:AfterG P Stop b k cs e a w):AfterG P Stop b (x::k) cs e a w:=by
  cases e with
  | normal=>exact absurd rfl he
  | exit id=>obtain⟨k',hk,hg⟩:=h;exact⟨k',by cases x<;>simp_all[exitTo,Item.plain],hg⟩
  | ret=>exact h
  | goto l=>exact h
  | panic ch=>exact h
  | outgrown=>exact h
def _root_.Go.Code.wpG(P:Program)(c:Code)(Q:Exit→Act→World→Prop)(a:Act)(w:World):Prop :=
 ∀(b:Frame) (k:List Item) (cs:List Frame) (Stop:Goroutine→World→Prop),b.kind≠.early →
  (∀ e a' w',Q e a' w'→AfterG P Stop b k cs e a' w')→RunG P Stop (G (b.at a (.code c::k)) cs) w
def pCA(P:Program)(ops:Array Oper)(todo:List Nat)(Q:Exit→Act→World→Prop)(a:Act)(w:World):Prop :=
 ∀(b:Frame) (k:List Item) (cs:List Frame) (Stop:Goroutine→World→Prop),b.kind≠.early →
  (∀ e a' w',Q e a' w'→AfterG P Stop b k cs e a' w')→RunG P Stop (G (b.at a (.inRegion ops todo::k)) cs) w
section rules
variable {Q Q' : Exit → Act → World → Prop} {a : Act} {w : World} {c x y : Code} {ops : Array Oper}
theorem lK(h:c.wpG P Q a w)(τ:Nat→Question→Nat)(d:Nat):c.wpG P Q a (re w τ d):=fun b k cs Stop hb hc=>(h b k cs Stop hb hc).re τ d
theorem cXA{l:List Nat}(h:pCA P ops l Q a w)(τ:Nat→Question→Nat)(d:Nat):pCA P ops l Q a (re w τ d):=fun b k cs Stop hb hc=>(h b k cs Stop hb hc).re τ d
theorem jE(T:Tame P)(h:∀ τ d,c.wp P Q a (re w τ d)):c.wpG P Q a w:=by
 intro b k cs Stop hb hc;refine RunG.lone T fun τ d=>?_
 obtain⟨e,a',w',hq,harr⟩:=h τ d b k cs;have:=hc _ _ _ hq
 cases e with
 | normal=>exact⟨_,w',harr,rfl,this⟩
 | exit id=>obtain⟨k',hk',hG⟩:=this;exact⟨_,w',harr k' hk',rfl,hG⟩
 | ret=>obtain⟨todo,hs⟩:=harr;exact⟨_,w',hs,rfl,this todo⟩
 | goto l=>exact this.elim
 | panic ch=>exact this.elim
 | outgrown=>exact this.elim
theorem dH(T:Tame P)(h:x.wpG P (Exit.then (fun a' w'=>y.wpG P Q a' w') Q) a w):(Code.seq x y).wpG P Q a w:=by
 intro b k cs Stop hb hc;refine RunG.step T (fun w=>step_seq) ?_;refine h b (.code y::k) cs Stop hb fun e a' w' q=>?_
 cases e with
 | normal=>exact q b k cs Stop hb hc
 | exit id=>exact(hc _ _ _ q).push rfl (by simp)
 | ret=>exact(hc _ _ _ q).push (x:=.code y) rfl (by simp)
 | goto l=>exact hc _ _ _ q
 | panic ch=>exact hc _ _ _ q
 | outgrown=>exact hc _ _ _ q
theorem zP(T:Tame P){o:Operand}{t:Bool}(hc:a.eval o = .bool t)(h:(if t then x else y).wpG P Q a w):(Code.cond o x y).wpG P Q a w :=
 fun b k cs Stop hb hq=>RunG.step T (fun w=>step_cond hc) (h b k cs Stop hb hq)
theorem mK(T:Tame P){id:Nat}(h:pCA P ops (List.range ops.size) Q a w):(Code.region id ops false).wpG P Q a w :=
 fun b k cs Stop hb hc=>RunG.step T (fun w=>step_region) (h b k cs Stop hb hc)
theorem uG(T:Tame P)(h:Q .normal a w):pCA P ops [] Q a w:=fun _ _ _ _ _ hc=>RunG.step T (fun w=>step_region_end) (hc _ _ _ h)
end rules
theorem tGA{ops:Array Oper}{K:Act→World→Prop}(l l2:List Nat) :
 ∀(a:Act) (w:World),wpOps P ops (Exit.then K fun _ _ _=>False) l a w→∀(b:Frame) (k:List Item) (cs:List Frame),b.kind≠.early →
  ∃ a' w',K a' w'∧Steps P (lone (b.at a (.inRegion ops (l++l2)::k)) cs w) (lone (b.at a' (.inRegion ops l2::k)) cs w'):=by
 induction l with
 | nil=>exact fun a w h b k cs _=>⟨a,w,h,⟨0,rfl⟩⟩
 | cons i rest ih =>
   intro a w h b k cs hbk;simp only[wpOps]at h
   cases ho:ops[i]? with
   | none =>
     simp only[ho]at h;obtain⟨a',w',hq,harr⟩:=ih a w h b k cs hbk;have hs:=step_op_skip (P:=P) (b:=b) (a:=a) (k:=k) (cs:=cs) (w:=w) (ops:=ops) (i:=i) (rest:=rest++l2) (by simp[ho]);simp only[ho,Option.bind_none,Act.put]at hs;exact⟨a',w',hq,.head hs harr⟩
   | some o =>
     simp only[ho]at h;by_cases hw:Region.wanted o (yielded ops a.tmps)=true
     · simp only [hw, if_true] at h; rcases h with h | ⟨_, _, _, hq⟩
       case inr=>exact hq.elim
       simp only[Oper.wp,Oper.upon]at h;have hg:=stepG_op (P:=P) (b:=b) (k:=k) (cs:=cs) (w:=w) (rest:=rest++l2) ho hw;have hfin:∀ v,(b.at a (.inRegion ops (i::(rest++l2))::k)).finish v=b.at (a.put o.dst v) (.inRegion ops (rest++l2)::k):=by
        intro v;rw[Frame.finish_at,ho];rfl
       split at h
       · rename_i v w' hr;obtain⟨a',w'',hq,harr⟩:=ih _ _ h b k cs hbk;refine⟨a',w'',hq,.head (step_lone_go ?_) harr⟩;rw[List.cons_append,hg,← hfin];simp[stepG.apply,hr]
       · rename_i w' hr;obtain⟨a',w'',hq,harr⟩:=ih _ _ h b k cs hbk;refine⟨a',w'',hq,.head (step_lone_go ?_) harr⟩;rw[List.cons_append,hg,← hfin];simp[stepG.apply,hr]
       · rename_i d w' hr; obtain ⟨a', w'', hq, harr⟩ := ih _ _ h b k cs hbk; refine ⟨a', w'', hq, .head (step_lone_go ?_) harr⟩; have : ({ b.at a (.inRegion ops (i :: (rest ++ l2)) :: k) with defers := d :: a.defers } : Frame).finish undef =
             b.at ({ a with defers:=d::a.defers }.put o.dst undef) (.inRegion ops (rest++l2)::k):=by
           have:=Frame.finish_at b { a with defers:=d::a.defers } ops i (rest++l2) k undef;rw[ho]at this;exact this
         rw[List.cons_append,hg];simp only[stepG.apply,Sem.runT_eq,hr,GStep.bare_after];exact congrArg (fun fr=>GStep.go { frame:=fr,callers:=cs,status:=.running,dying:=none } w') this
       · rename_i f args w' hr; obtain ⟨e, w'', fr, hR, hsteps, _, hleave⟩ := h (b.at a (.inRegion ops (i :: (rest ++ l2)) :: k) :: cs); have henter : step P (lone (b.at a (.inRegion ops (i :: (rest ++ l2)) :: k)) cs w) =
             .next (lone (Frame.enter P f args .normal) (b.at a (.inRegion ops (i::(rest++l2))::k)::cs) w') :=
           step_lone_go (by rw[hg];simp[stepG.apply,hr,Frame.at])
         cases e with
         | returned v =>
           obtain⟨a',w₃,hq,harr⟩:=ih _ _ hR b k cs hbk;refine⟨a',w₃,hq,.head henter (hsteps.trans (.head ?_ harr))⟩;rw[← hfin];exact step_leave_returned hleave
         | panicked chain=>exact hR.elim
         | outgrown=>obtain⟨_,_,hq⟩:=hR;exact hq.elim
       · rename_i row args w' hr; obtain ⟨v, w'', hR, hsteps⟩ := h (b.at a (.inRegion ops (i :: (rest ++ l2)) :: k)) cs; have henter : step P (lone (b.at a (.inRegion ops (i :: (rest ++ l2)) :: k)) cs w) =
             .next (lone (Frame.ofRow P row args .normal) (b.at a (.inRegion ops (i::(rest++l2))::k)::cs) w') :=
           step_lone_go (by rw[hg];simp[stepG.apply,hr,Frame.at])
         obtain⟨a',w₃,hq,harr⟩:=ih _ _ hR b k cs hbk;refine⟨a',w₃,hq,.head henter (Steps.trans ?_ harr)⟩;rw[← hfin];exact hsteps
       · exact h.elim
       · exact h.elim
     · simp only [hw, if_false, Bool.false_eq_true] at h; obtain ⟨a', w', hq, harr⟩ := ih _ _ h b k cs hbk; have hs := step_op_skip (P := P) (b := b) (a := a) (k := k) (cs := cs) (w := w) (ops := ops) (i := i) (rest := rest ++ l2)
         (by simp[ho];simpa using hw)
       simp only[ho,Option.bind_some]at hs;exact⟨a',w',hq,.head hs harr⟩
theorem pJA (T : Tame P) {Q : Exit → Act → World → Prop} {a : Act} {w : World} {ops : Array Oper} (l l2 : List Nat)
    (h:∀ τ d,wpOps P ops (Exit.then (fun a' w'=>pCA P ops l2 Q a' w') fun _ _ _=>False) l a (re w τ d)):pCA P ops (l++l2) Q a w:=by
  intro b k cs Stop hb hc;refine RunG.lone T fun τ d=>?_
  obtain⟨a',w',hK,hs⟩:=tGA l l2 a _ (h τ d) b k cs hb;exact⟨_,w',hs,rfl,hK b k cs Stop hb hc⟩
theorem uGA{ops:Array Oper}{Q:Exit→Act→World→Prop}(l:List Oper):∀ k,(∀ j,j < l.length→l[j]? = ops[k+j]?)→wpOps P ops Q (List.range' k l.length)=wpList P ops Q l:=by
 induction l with
 | nil=>intro k _;funext a w;simp[wpOps,wpList]
 | cons o l ih =>
   intro k h;have h0:ops[k]? = some o:=by simpa using (h 0 (by simp)).symm
   have ih':=ih (k+1) (fun j hj=>by have:=h (j+1) (by simpa using hj);simpa [Nat.add_assoc,Nat.add_comm 1 j] using this);funext a w
   simp only[List.length_cons,List.range'_succ,wpOps,h0,wpList,ih']
theorem rW (T : Tame P) {Q : Exit → Act → World → Prop} {a : Act} {w : World} {id : Nat} {ops : Array Oper} (n : Nat) (hn : n ≤ ops.size)
    (h:∀ τ d,wpList P ops (Exit.then (fun a' w'=>pCA P ops (List.range' n (ops.size - n)) Q a' w') fun _ _ _=>False) (ops.toList.take n) a (re w τ d)):(Code.region id ops false).wpG P Q a w:=by
  refine mK T ?_;have e:List.range ops.size=List.range' 0 n++List.range' n (ops.size - n):=by
   have:=List.range'_append_1 (s:=0) (m:=n) (n:=ops.size - n);rw[Nat.zero_add]at this;rw[List.range_eq_range',this,Nat.add_sub_cancel' hn]
  rw[e];refine pJA T _ _ fun τ d=>?_
  have hl:(ops.toList.take n).length=n:=by simp;omega
  have := uGA (P := P) (ops := ops) (Q := Exit.then (fun a' w' => pCA P ops (List.range' n (ops.size - n)) Q a' w') fun _ _ _ => False) (ops.toList.take n) 0 (fun j hj => by
    rw[hl]at hj;rw[List.getElem?_take_of_lt hj];simp)
  rw[hl]at this;rw[this];exact h τ d
theorem bF (T : Tame P) {Q : Exit → Act → World → Prop} {a : Act} {w : World} {ops : Array Oper} (k n m : Nat) (hn : k + n ≤ ops.size)
    (h:∀ τ d,wpList P ops (Exit.then (fun a' w'=>pCA P ops (List.range' (k+n) m) Q a' w') fun _ _ _=>False) ((ops.toList.drop k).take n) a (re w τ d)):pCA P ops (List.range' k (n+m)) Q a w:=by
  have e:List.range' k (n+m)=List.range' k n++List.range' (k+n) m:=by rw[List.range'_append_1]
  rw[e];refine pJA T _ _ fun τ d=>?_
  have hl:((ops.toList.drop k).take n).length=n:=by simp;omega
  have := uGA (P := P) (ops := ops) (Q := Exit.then (fun a' w' => pCA P ops (List.range' (k + n) m) Q a' w') fun _ _ _ => False) ((ops.toList.drop k).take n) k (fun j hj => by
    rw[hl]at hj;rw[List.getElem?_take_of_lt hj,List.getElem?_drop];simp)
  rw[hl]at this;rw[this];exact h τ d
def CallsG(P:Program)(f:FuncId)(args:Array Value)(w:World)(Post:Value→World→Prop):Prop :=
 ∀ cs,RunG P (fun g' w'=>∃ v fr,g'=G fr cs∧fr.fn=f∧(∀ τ d,fr.leaving P (re w' τ d) (.returned v))∧Post v w') (G (Frame.enter P f args .normal) cs) w
theorem CallsG.mono{f:FuncId}{args:Array Value}{w:World}{Post Post':Value→World→Prop}(h:CallsG P f args w Post)(hp:∀ v w,Post v w→Post' v w):CallsG P f args w Post' :=
 fun cs=>(h cs).mono fun _ _ ⟨v,fr,h1,h1',h2,h3⟩=>⟨v,fr,h1,h1',h2,hp _ _ h3⟩
theorem CallsG.re{f:FuncId}{args:Array Value}{w:World}{Post:Value→World→Prop}(h:CallsG P f args w Post)(τ:Nat→Question→Nat)(d:Nat):CallsG P f args (Lx.re w τ d) Post:=fun cs=>(h cs).re τ d
theorem zI (T : Tame P) {Q : Exit → Act → World → Prop} {a : Act} {w : World} {ops : Array Oper} {i : Nat} {rest : List Nat} {o : Oper} {f : FuncId} {args : Array Value} {Post : Value → World → Prop}
    (ho:ops[i]? = some o) (hw:Region.wanted o (yielded ops a.tmps)=true) (hr:∀ w,(execOp a.eval o).run P w = .ok (.enter f args) w)
    (hcall:CallsG P f args w Post) (hnext:∀ v w',Post v w'→pCA P ops rest Q (a.put o.dst v) w'):pCA P ops (i::rest) Q a w:=by
  intro b k cs Stop hb hc;refine RunG.step T (fr':=Frame.enter P f args .normal) (cs':=b.at a (.inRegion ops (i::rest)::k)::cs) (fun w=>?_) ?_
  · exact step_lone_go (by rw[stepG_op ho hw];simp[stepG.apply,hr,Frame.at])
  · refine (hcall _).trans ?_; rintro g' w' ⟨v, fr, rfl, _, hl, hp⟩; refine RunG.lone T fun τ d => ⟨G (b.at (a.put o.dst v) (.inRegion ops rest :: k)) cs, Lx.re w' τ d, .one ?_, rfl, (hnext v w' hp b k cs Stop hb hc).re τ d⟩
    have:=step_leave_returned (c:=b.at a (.inRegion ops (i::rest)::k)) (cs:=cs) (hl τ d);rw[Frame.finish_at,ho]at this;exact this
def xS (P : Program) (fn : Func) (Post : Value → World → Prop) : Exit → Act → World → Prop
  | .normal,a,w | .ret,a,w=>a.defers=[]∧∃ v,(∀ τ d,(results fn a.tmps).run P (re w τ d) = .ok v (re w τ d))∧Post v w
  | _,_,_=>False
theorem bK (T : Tame P) {f : FuncId} {fn : Func} {c : Code} {args : Array Value} {w : World} {Post : Value → World → Prop} (hf : P.funcs[f]? = some fn) (hb : fn.body = some c)
    (h:c.wpG P (xS P fn Post) { tmps:=args++Array.replicate (fn.ntmps - args.size) undef,defers:=[] } w) (hPost:∀ v w τ d,Post v w→Post v (re w τ d)):CallsG P f args w Post:=by
  intro cs
  let b:Frame:={ (default:Frame) with fn:=f,kind:=.normal }
  have henter:Frame.enter P f args .normal=b.at { tmps:=args++Array.replicate (fn.ntmps - args.size) undef,defers:=[] } [.code c]:=by
   simp[Frame.enter,Frame.at,hf,hb,b]
  rw[henter];have fin:∀(a':Act) (w':World) (todo:List Item),(a'.defers=[]∧∃ v,(∀ τ d,(results fn a'.tmps).run P (re w' τ d) = .ok v (re w' τ d))∧Post v w') →
   RunG P (fun g' w'=>∃ v fr,g'=G fr cs∧fr.fn=f∧(∀ τ d,fr.leaving P (re w' τ d) (.returned v))∧Post v w') (G { b.at a' todo with mode:=.returning } cs) w':=by
   rintro a' w' todo ⟨hd,v,hr,hp⟩;exact RunG.stop fun τ d=>⟨v,_,rfl,rfl,fun τ' d'=>⟨rfl,hd,rfl,fn,hf,hr τ' d'⟩,hPost _ _ _ _ hp⟩
  refine h b [] cs _ (by simp[b]) fun e a' w' q=>?_
  cases e with
  | normal=>exact RunG.step T (fun w=>step_end) (fin a' w' [] q)
  | ret=>exact fun todo=>fin a' w' todo q
  | exit id=>exact q.elim
  | goto l=>exact q.elim
  | panic ch=>exact q.elim
  | outgrown=>exact q.elim
open Go.ConcN (sumTo upd sumTo_upd upd_ne upd_same)
variable {P : Program}
theorem tSA{fr:Frame}{w:World}{v:Value}{fn:Func}{t:Tmp}(h:fr.leaving P w (.returned v))(hfn:P.funcs[fr.fn]? = some fn)(hres:fn.results=#[.tmp t])(hi:P.inits.idxOf? fr.fn=none) :
 stepG P true (G fr []) w = .ended (.done v) w #[]:=by
 obtain⟨hm,hd,hk,fn',hf,hr⟩:=h;have e:fn'=fn:=Option.some.inj (hf.symm.trans hfn);subst e;have he:(results fn' fr.tmps).events P w #[]=#[]:=events_results_tmp hres _ _;simp[G,stepG,unwind,doReturn,hm,hd,hk,hf,hr,hi,he,seen_none,GStep.after]
theorem o4A {fn : Func} {f : FuncId} {tt : Tmp} {Post : Value → World → Prop} {fr : Frame} {w : World} {v : Value} (hfn : P.funcs[f]? = some fn) (hres : fn.results = #[.tmp tt]) (hi : P.inits.idxOf? f = none) (hff : fr.fn = f)
    (hl:∀ τ d,fr.leaving P (re w τ d) (.returned v)) (hp:∀ τ d,Post v (re w τ d)) :
    ∀(L e:Nat) (gs:Array Goroutine) (sl:Option (Nat×Nat)) (t:Trace) (q:Nat→Nat),sumTo gs.size q=L→gs[0]? = some (G fr [])→Leavers P t gs q→Kn t →
     ∃ M last o w' t',runNT P (M+1) (crowd gs (w.at e) sl) t=(.ended o w',t')∧runN P M (crowd gs (w.at e) sl) = .next last∧step P last = .ended o w'∧Conc.Good P Post last o w' t':=by
  intro L
  induction L using Nat.strongRecOn with
  | ind L ih =>
  intro e0 gs sl t q hL h0 hL' hK;have hlt0:0 < gs.size:=(Array.getElem?_eq_some_iff.1 h0).1;have hrun:(G fr []).status = .running:=rfl;have haw:∀ x∈gs,awake x:=by
   intro x hx;obtain⟨i,hi,rfl⟩:=Array.mem_iff_getElem.1 hx;rcases Nat.eq_zero_or_pos i with rfl | hpos
   · have : gs[0] = G fr [] := by simpa [Array.getElem?_eq_getElem hi] using h0
     rw[this];exact awake_of (.inl hrun)
   · exact awake_of ((hL'.old i _ hpos (Array.getElem?_eq_getElem hi)).status.elim .inl fun x=>.inr (.inr x))
  obtain⟨i,x,e,sl',hi',hx,hst⟩:=crowd_pick (P:=P) (w:=w.at e0) (sl:=sl) haw ⟨0,_,h0,hrun⟩;have hat:(w.at e0).at e=w.at e:=rfl;rw[hat]at hst;rcases Nat.eq_zero_or_pos i with rfl | hpos
  · rw [h0] at hi'; obtain rfl := Option.some.inj hi'; have hend := tSA (hl w.tape e) (hff ▸ hfn) hres (hff ▸ hi); have hrunT := runT_many_ended (P := P) (sl := sl') (i := 0) h0 (show stepG P (0 == 0) _ _ = _ from hend); have hstp := hst.trans hrunT; have hemp : MemOp.ofEvents 0 (G fr []).frame.fn (G fr []).frame.place #[] = #[] := rfl; rw [hemp] at hstp; refine ⟨0, crowd gs (w.at e0) sl, .done v, w.at e, t, ?_, rfl, ?_, v, rfl, hp w.tape e, hK.clean, hK.over, ⟨fun x hx => ?_, rfl⟩, fun j x hx hj => ?_⟩
    · simp only[runNT];rw[hstp];simp;rfl
    · rw[step,hstp];rfl
    · obtain⟨j,hj⟩:=List.mem_iff_getElem?.1 hx;rw[List.getElem?_drop]at hj;exact⟨_,(hL'.old (1+j) x (by omega) (by simpa [crowd] using hj)).leaves⟩
    · exact⟨q j,(hL'.old j x (by omega) hx).hears _⟩
  · have hq := hL'.old i x hpos hi'; have hi0 : (i == 0) = false := by simp; omega
    have hlt:i < gs.size:=(Array.getElem?_eq_some_iff.1 hi').1
    cases hqi:q i with
    | zero=>rw[hqi]at hq;rw[hq.1]at hx;cases hx
    | succ k =>
      rw[hqi]at hq;rcases hq with⟨hf,_⟩ | ⟨_,g',es,hm,hstp,hq'⟩
      · rw[hf]at hx;cases hx
      have hund:(gs.map (woken P x g' (w.at e))).setIfInBounds i g'=gs.setIfInBounds i g':=by
       refine yH fun j y _ hy=>?_
       rcases Nat.eq_zero_or_pos j with rfl | hj
       · rw[h0]at hy;obtain rfl:=Option.some.inj hy;exact .inl hrun
       · exact(hL'.old j y hj hy).status.imp id .inl
      have hu:∀ op∈MemOp.ofEvents i x.frame.fn x.frame.place es,op.g=i:=fun op hop=>by obtain⟨e,_,rfl⟩:=Conc.mem_ofEvents hop;rfl
      rw [runT_crowd_go (P := P) (i := i) hi' (by rw [hi0]; exact hstp (w.at e)), hund] at hst; obtain ⟨M, last, o, w', t', h1, h2, h3, h4⟩ := ih (sumTo (gs.setIfInBounds i g').size (upd q i k)) (by rw [← hL, Array.size_setIfInBounds]; exact gU hlt hqi) e _ sl' (t ++ MemOp.ofEvents i x.frame.fn x.frame.place es) (upd q i k) rfl (by rw [Array.getElem?_setIfInBounds_ne (by omega)]; exact h0) ⟨fun j y hj hy => by
          by_cases hji:i=j
          · subst hji;rw[pI hlt]at hy;obtain rfl:=Option.some.inj hy;rw[upd_same,Deaf_own];exact hq'
          · rw[Array.getElem?_setIfInBounds_ne hji]at hy;rw[upd_ne q k (Ne.symm hji),Deaf_other t hji _ hu];exact hL'.old j y hj hy,fun j hj=>by
          have hj':gs.size≤j:=by simpa using hj
          rw[Deaf_other t (g':=i) (by omega) _ hu];exact hL'.above j hj'⟩
        (hK.appMute (g:=i) (by omega) hu (fun op hop=>by obtain⟨e,he,rfl⟩:=Conc.mem_ofEvents hop;exact touch_mute (hm e he)))
      refine⟨M+1,last,o,w',t',?_,?_,h3,h4⟩
      · rw[runNT,hst];exact h1
      · rw[runN,step,hst];exact h2
theorem aW {fn : Func} {f : FuncId} {tt : Tmp} {args : Array Value} {W : World} {Post : Value → World → Prop} (hfn : P.funcs[f]? = some fn) (hb : fn.body.isSome = true) (hres : fn.results = #[.tmp tt]) (hi : P.inits.idxOf? f = none)
    (h:CallsG P f args W fun v w=>∀ τ d,Post v (re w τ d)) :
    ∃ M last o w' t',runNT P (M+1) (solo (G (Frame.enter P f args .normal) []) W) #[]=(.ended o w',t')∧runN P M (solo (G (Frame.enter P f args .normal) []) W) = .next last∧step P last = .ended o w'∧Conc.Good P Post last o w' t':=by
  have hgok:GOk (G (Frame.enter P f args .normal) []):=by
   obtain⟨c,hc⟩:=Option.isSome_iff_exists.1 hb;refine⟨fun i hi=>?_,by simp[G],by simp[fF,G]⟩;simp[G,Frame.enter,hfn,hc]at hi;subst hi;trivial
  obtain ⟨N, gs', g', w', sl', t', q', hr, h0, ⟨_, _, v, fr, rfl, hff, hl, hp⟩, hL, hK⟩ := h [] hgok rfl W.tape W.drawn #[G (Frame.enter P f args .normal) []] none #[] (fun _ => 0) rfl
    ⟨fun i g hi hg => by
      have:=(Array.getElem?_eq_some_iff.1 hg).1;simp at this;omega,fun j _=>by simp[Deaf,Trace.deaf]⟩ kBB
  obtain⟨M,last,o,w'',t'',h1,h2,h3,h4⟩:=o4A (Post:=Post) hfn hres hi hff hl hp _ w'.drawn gs' sl' t' q' rfl h0 hL hK;have hr:runNT P N (crowd #[G (Frame.enter P f args .normal) []] W none) #[]=(.next (crowd gs' w' sl'),t'):=hr;rw[solo_eq_crowd];refine⟨N+M,last,o,w'',t'',?_,?_,h3,h4⟩
  · rw[Nat.add_assoc,eIA N (M+1) _ _ _ _ hr];exact h1
  · have : runN P N (crowd #[G (Frame.enter P f args .normal) []] W none) = .next (crowd gs' w' sl') := by rw [← runNT_fst P N _ #[]]; exact congrArg Prod.fst hr
    rw[runN_add,this];exact h2
end Go.Lx
namespace Go.Lx
theorem Under.re{W w:World}(h:Under W w)(τ:Nat→Question→Nat)(d:Nat):Under W (re w τ d):=⟨h.os,h.output,h.size,h.low⟩
variable {P : Program}
theorem kIA:∀(n:Nat) (a:Addr) (acc:ByteArray),Ok P (Extern.Bytes.loadBytes a n acc):=by
 intro n
 induction n with
 | zero=>intro a acc;exact Ok.pure
 | succ n ih =>
   intro a acc;unfold Extern.Bytes.loadBytes;refine Ok.bind iAA fun v=>?_
   split
   · exact ih _ _
   · exact jA
theorem lOA:∀ v,Ok P (Extern.Bytes.bytesOf v):=by
 intro v;unfold Extern.Bytes.bytesOf
 repeat' (first | (with_reducible exact Ok.pure) | (with_reducible exact Ok.halt trivial) | (with_reducible apply kIA) | (with_reducible apply jA) | (with_reducible apply Ok.bind) | (with_reducible apply Ok.map) | intro _ | split | dsimp only)
theorem jTA:∀ v,Ok P (Extern.Bytes.asByte v):=by
 intro v;unfold Extern.Bytes.asByte
 repeat' (first | (with_reducible exact Ok.pure) | (with_reducible exact Ok.halt trivial) | (with_reducible apply jA) | (with_reducible apply Ok.bind) | (with_reducible apply Ok.map) | intro _ | split | dsimp only)
theorem mIA:∀ args,Ok P (Extern.BytealgIndexByte.indexByte args):=by
 intro args;obtain⟨l⟩:=args;rcases l with _ | ⟨x,_ | ⟨y,_ | ⟨z,t⟩⟩⟩
 · exact jA
 · exact jA
 · refine Ok.bind (lOA x) fun a => Ok.bind (jTA y) fun b => ?_
   repeat' (first | (with_reducible exact Ok.pure) | (with_reducible exact Ok.halt trivial) | (with_reducible apply Ok.bind) | (with_reducible apply Ok.map) | intro _ | split | dsimp only)
 · exact jA
theorem q2A:∀ args,Ok P (Extern.AbiNoEscape.same args):=by
 intro args;obtain⟨l⟩:=args;rcases l with _ | ⟨x,_ | ⟨y,t⟩⟩
 · exact jA
 · exact Ok.pure
 · exact jA
theorem bBA:∀ s,Ok P (Extern.RuntimeError.text s):=by
 intro s;unfold Extern.RuntimeError.text
 repeat' (first | (with_reducible exact Ok.pure) | (with_reducible exact Ok.halt trivial) | (with_reducible apply Ok.bind) | (with_reducible apply Ok.map) | intro _ | split | dsimp only)
theorem sDA:∀ args,Ok P (Extern.RuntimeError.boundsError args):=by
 intro args;obtain⟨l⟩:=args;rcases l with _ | ⟨x,_ | ⟨y,t⟩⟩
 · exact jA
 · cases x <;> first | exact jA | skip
   rename_i a;obtain⟨l⟩:=a;rcases l with _ | ⟨a,_ | ⟨b,_ | ⟨c,_ | ⟨d,_ | ⟨e,t⟩⟩⟩⟩⟩
   · exact jA
   · cases a<;>exact jA
   · cases a<;>cases b<;>exact jA
   · cases a<;>cases b<;>first | exact jA | (cases c<;>exact jA)
   · cases a <;> first | exact jA | skip
     cases b<;>first | exact jA | skip
     cases c<;>first | exact jA | skip
     cases d<;>first | exact jA | skip
     rename_i k1 n1 k2 n2 b k3 n3
     conv=>arg 2;whnf
     split
     · exact bBA _
     · exact jA
   · cases a<;>cases b<;>first | exact jA | (cases c<;>first | exact jA | (cases d<;>exact jA))
 · exact jA
theorem uX:∀ v,Ok P (Extern.RuntimeError.described v):=by
 intro v;unfold Extern.RuntimeError.described
 repeat' (first | (with_reducible exact Ok.pure) | (with_reducible exact Ok.halt trivial) | (with_reducible apply yD) | (with_reducible apply pY) | (with_reducible apply iD) | (with_reducible apply jA) | (with_reducible apply Ok.bind) | (with_reducible apply Ok.map) | intro _ | split | dsimp only)
theorem tIA:∀ i,Ok P (Extern.RuntimeError.pkgpathOf i):=by
 intro i;unfold Extern.RuntimeError.pkgpathOf
 repeat' (first | (with_reducible exact Ok.pure) | (with_reducible exact Ok.halt trivial) | (with_reducible apply iD) | (with_reducible apply Ok.bind) | (with_reducible apply Ok.map) | intro _ | split | dsimp only)
theorem rT:∀ args,Ok P (Extern.RuntimeError.typeAssertionError args):=by
 intro args;unfold Extern.RuntimeError.typeAssertionError
 repeat' (first | (with_reducible exact Ok.pure) | (with_reducible exact Ok.halt trivial) | (with_reducible apply oW) | (with_reducible apply uX) | (with_reducible apply iAA) | (with_reducible apply nQ) | (with_reducible apply uB) | (with_reducible apply bBA) | (with_reducible apply tIA) | (with_reducible apply fB) | (with_reducible apply Ok.bind) | (with_reducible apply Ok.map) | intro _ | split | dsimp only)
theorem iGA:∀ args,Ok P (Extern.RuntimeError.unhashableTypeError args):=by
 intro args;obtain⟨l⟩:=args;rcases l with _ | ⟨x,_ | ⟨y,t⟩⟩
 · exact jA
 · cases x <;> first | exact jA | skip
   rename_i a;obtain⟨l⟩:=a;rcases l with _ | ⟨a,_ | ⟨b,t⟩⟩
   · exact jA
   · refine Ok.bind (uX a) fun t => ?_
     cases t with
     | none=>exact(uB .nilDeref:Ok P (runtimePanic _:Sem Value))
     | some t=>exact bBA _
   · exact jA
 · exact jA
theorem jJ:∀ args,Ok P (Extern.RuntimeError.nothing args):=by
 intro args;unfold Extern.RuntimeError.nothing
 repeat' (first | (with_reducible exact Ok.pure) | (with_reducible exact Ok.halt trivial) | (with_reducible apply Ok.bind) | (with_reducible apply Ok.map) | intro _ | split | dsimp only)
theorem e5A : ∀ args, Ok P ((Extern.RuntimeError.rows.getD 0 ("", Extern.RuntimeError.nothing)).2 args) := by
 intro args;exact Ok.bind (nQ _) fun _=>Ok.pure
theorem b5A : ∀ args, Ok P ((Extern.RuntimeError.rows.getD 1 ("", Extern.RuntimeError.nothing)).2 args) := by
 intro args;exact Ok.bind (nQ _) fun _=>Ok.pure
theorem t2A : ∀ args, Ok P ((Extern.RuntimeError.rows.getD 2 ("", Extern.RuntimeError.nothing)).2 args) := by
 intro args;exact Ok.bind (rQA _) fun _=>Ok.bind (nQ _) fun _=>Ok.pure
theorem v5A : ∀ args, Ok P ((Extern.RuntimeError.rows.getD 6 ("", Extern.RuntimeError.nothing)).2 args) := by
 intro args;exact bBA _
theorem j9A {P : Program} (L : List Nat) (hn : P.funcs.all (fun fn => !(fn.name == "runtime.NumGoroutine")) = true) (hx : P.funcs.all (fun fn => fn.body.isSome || (Extern.findNext fn).isNone) = true)
    (hL:(List.range P.funcs.size).filter (fun f=>(P.funcs[f]?).any (fun fn=>fn.body.isNone))=L)
    (hv:∀ f∈L,∀ fn e,P.funcs[f]? = some fn→Extern.find fn=some e→∀ args,Ok P (e args)):Tame P:=by
  refine⟨fun f fn h=>?_,fun f fn e h hb he=>?_,fun f fn e h hb _ he=>hv f ?_ fn e h he⟩
  · have := Array.all_eq_true_iff_forall_mem.1 hn fn (Array.mem_of_getElem? h)
    simpa using this
  · have := Array.all_eq_true_iff_forall_mem.1 hx fn (Array.mem_of_getElem? h); rw [he] at this
    cases hc:fn.body with
    | none=>rw[hc]at this;simp at this
    | some c=>rw[hc]at hb;simp at hb
  · rw[← hL,List.mem_filter,List.mem_range];exact⟨(Array.getElem?_eq_some_iff.1 h).1,by rw[h];simpa using hb⟩
end Go.Lx
namespace Go.Lx
open Go.RowKit
theorem o7 {base : Nat} {e : TypeId} {v : Value} {n g : Nat} (hg : v.ownBlock = some g) : ∀ (vs : List Value) (o : Nat) (w : World) (xs : List Value), w.ownsRow base e 1 v n xs → o + vs.length ≤ xs.length → (w.setCells g o vs).ownsRow base e 1 v n (xs.take o ++ vs ++ xs.drop (o + vs.length))
  | [], o, w, xs, h, _ => by
    rw[List.append_nil,List.length_nil,Nat.add_zero,List.take_append_drop];exact h
  | u :: r, o, w, xs, h, hl => by
    rw[List.length_cons]at hl;have h1:=o7 hg r (o+1) _ _ (cWA h hg (j:=o) (by omega) u) (by rw[List.length_set];omega);have e1:(xs.set o u).take (o+1)=xs.take o++[u]:=by
     rw[List.take_succ_eq_append_getElem (by rw[List.length_set];omega),List.getElem_set_self,List.take_set_of_le (Nat.le_refl _)]
    have e2:(xs.set o u).drop (o+1+r.length)=xs.drop (o+(u::r).length):=by
     rw[List.drop_set_of_lt (by omega),List.length_cons,show o+(r.length+1)=o+1+r.length by omega]
    rw[e1,e2]at h1
    show((w.setCell ⟨g,o,none⟩ u).setCells g (o+1) r).ownsRow base e 1 v n _
    simpa using h1
theorem uV {W : World} {g : Nat} (hg : W.heap.size ≤ g) : ∀ (vs : List Value) (o : Nat) (w : World), Under W w → Under W (w.setCells g o vs)
  | [],_,_,h=>h
  | u::r,o,w,h=>uV hg r (o+1) _ (bC h hg o u)
theorem dQA (x : ByteArray) : ∀ (zs : List ByteArray) (i : Nat), Lib.idxFromS zs x i = match zs.findIdx? fun z => z.toList == x.toList with | some k => ((i + k : Nat) : Int) | none => -1
  | [],_=>rfl
  | z :: zs, i => by
    unfold Lib.idxFromS;by_cases h:z=x
    · have:(z.toList==x.toList)=true:=(Lib.bytes_beq_iff z x).2 h;rw[if_pos h,List.findIdx?_cons,this];rfl
    · have : (z.toList == x.toList) = false := (Lib.bytes_beq_false_iff z x).2 h; rw [if_neg h, List.findIdx?_cons, this, dQA x zs (i + 1)]
      cases zs.findIdx? fun z=>z.toList==x.toList with
      | none=>rfl
      | some k=>simp only[Option.map_some];congr 1;omega
theorem sNA(st:List ByteArray)(s:ByteArray):Lib.idxOfS st.reverse s=match zDA st s with | some k=>(k:Int) | none => -1:=by
 unfold Lib.idxOfS zDA;rw[dQA]
 cases st.reverse.findIdx? fun z=>z.toList==s.toList with
 | none=>rfl
 | some k=>simp
theorem gFA(zs:List ByteArray)(x:ByteArray):Lib.containsS zs x=lBA zs x:=by
 rw[Bool.eq_iff_iff,Lib.containsS_iff];unfold lBA;rw[List.any_eq_true];constructor
 · intro h;exact⟨x,h,by simp⟩
 · rintro⟨y,h1,h2⟩;rw[(Lib.bytes_beq_iff y x).1 h2]at h1;exact h1
end Go.Lx
namespace Go.Lx
open Go
variable {P : Program} {ops : Array Oper} {Q : Exit → Act → World → Prop} {md : Region.Mode} {S : World → Prop}
theorem qD (i : Nat) {oi : Oper} {v : Value} {fuel : Nat} {listed : Array Bool} {a : Act} {w : World} (hi : ops[i]? = some oi)
    (hb:(Region.noSelect ops&&Region.free md ops listed i&&(Region.ready md ops listed).contains i)=true)
    (hQ:∀ c a w,Q (.panic c) (a.put oi.dst v) w→Q (.panic c) a w) (hy:YieldsIf P ops S oi v a) (hS:S w)
    (h:wpAnyH P md ops Q S fuel (listed.setIfInBounds i true) (a.put oi.dst v) w):wpAnyH P md ops Q S (fuel+1) listed a w:=by
  simp only[Bool.and_eq_true]at hb;exact wpAnyH_take hi hb.1.1 hb.1.2 hb.2 hQ hy hS h
theorem qC (i : Nat) {oi : Oper} {v : Value} {fuel : Nat} {listed : Array Bool} {a : Act} {w : World} (hi : ops[i]? = some oi)
    (hb:(Region.noSelect ops&&Region.free md ops listed i&&(Region.ready md ops listed).contains i)=true) (hw:Region.wanted oi (yielded ops a.tmps)=true)
    (hQ:∀ c a w,Q (.panic c) (a.put oi.dst v) w→Q (.panic c) a w) (hS:S w) (hy:∀ w,S w→(execOp a.eval oi).run P w = .ok (.value v) w)
    (h:wpAnyH P md ops Q S fuel (listed.setIfInBounds i true) (a.put oi.dst v) w):wpAnyH P md ops Q S (fuel+1) listed a w :=
  qD i hi hb hQ (.inl ⟨hw,hy⟩) hS h
theorem mD (i : Nat) {oi : Oper} {fuel : Nat} {listed : Array Bool} {a : Act} {w : World} (hi : ops[i]? = some oi)
    (hb:(Region.noSelect ops&&Region.free md ops listed i&&(Region.ready md ops listed).contains i)=true) (hw:Region.wanted oi (yielded ops a.tmps)=false)
    (hQ:∀ c a w,Q (.panic c) (a.put oi.dst undef) w→Q (.panic c) a w) (hS:S w)
    (h:wpAnyH P md ops Q S fuel (listed.setIfInBounds i true) (a.put oi.dst undef) w):wpAnyH P md ops Q S (fuel+1) listed a w :=
  qD i hi hb hQ (.inr ⟨hw,rfl⟩) hS h
theorem yA (i : Nat) {o : Oper} {fuel : Nat} {listed : Array Bool} {a : Act} {w : World} (hr : Region.ready md ops listed = [i]) (ho : ops[i]? = some o)
    (h:∀ K':Act→World→Prop,Go.Shut (∀ a w,S w→(S w→wpAnyH P md ops Q S fuel (listed.setIfInBounds i true) a w)→K' a w)→if Region.wanted o (yielded ops a.tmps)=true then Oper.wp P o a w K' Q else K' (a.put o.dst undef) w) :
    wpAnyH P md ops Q S (fuel+1) listed a w :=
  wpAnyH_ready hr (by simp) (AllReadyH.cons ho h AllReadyH.nil)
theorem oM (i j : Nat) {o p : Oper} {fuel : Nat} {listed : Array Bool} {a : Act} {w : World} (hr : Region.ready md ops listed = [i, j]) (ho : ops[i]? = some o) (hp : ops[j]? = some p)
    (h:∀ K':Act→World→Prop,Go.Shut (∀ a w,S w→(S w→wpAnyH P md ops Q S fuel (listed.setIfInBounds i true) a w)→K' a w)→if Region.wanted o (yielded ops a.tmps)=true then Oper.wp P o a w K' Q else K' (a.put o.dst undef) w)
    (g:∀ K':Act→World→Prop,Go.Shut (∀ a w,S w→(S w→wpAnyH P md ops Q S fuel (listed.setIfInBounds j true) a w)→K' a w)→if Region.wanted p (yielded ops a.tmps)=true then Oper.wp P p a w K' Q else K' (a.put p.dst undef) w) :
    wpAnyH P md ops Q S (fuel+1) listed a w :=
  wpAnyH_ready hr (by simp) (AllReadyH.cons ho h (AllReadyH.cons hp g AllReadyH.nil))
variable {P : Program} {ops : Array Oper} {Q : Exit → Act → World → Prop} {md : Region.Mode} {S : World → Prop}
theorem dA (i : Nat) {oi : Oper} {v : Value} {fuel : Nat} {listed : Array Bool} {a : Act} {w : World} (hi : ops[i]? = some oi)
    (h:wpAnyH P md ops Q S fuel (listed.setIfInBounds i true) (a.put oi.dst v) w)
    (hb:(Region.noSelect ops&&Region.free md ops listed i&&(Region.ready md ops listed).contains i&&Region.wanted oi (yielded ops a.tmps))=true:=by kernel_rfl)
    (hQ:∀ c a w,Q (.panic c) (a.put oi.dst v) w→Q (.panic c) a w:=by exact fun _ _ _ h=>h) (hS:S w:=by assumption)
    (hy:∀ w,S w→(execOp a.eval oi).run P w = .ok (.value v) w:=by(intro w hSw;(try dsimp only at hSw);go_simp;try with_reducible rfl)):wpAnyH P md ops Q S (fuel+1) listed a w:=by
  simp only[Bool.and_eq_true]at hb;exact qC i hi (by simp only[Bool.and_eq_true];exact hb.1) hb.2 hQ hS hy h
end Go.Lx
namespace Go.Lx
def wG(x:Nd):List Nat:=if zA x then binds x else []
def dG (t : List Nd) : Nat → List Nat → List (Nat × Nat)
  | k + 1, u :: st => match t[k]? with
    | some x=>(k,u)::dG t k (((wG x).map (u + ·)).reverse++st)
    | none=>[]
  | _,_=>[]
theorem aU{t:List Nd}{k u:Nat}{st:List Nat}{x:Nd}(hx:t[k]? = some x):dG t (k+1) (u::st)=(k,u)::dG t k (((wG x).map (u + ·)).reverse++st):=by
 simp[dG,hx]
theorem sSA(k:Nat):∀ n∈jH k,n≤2:=by
 unfold jH;split<;>simp
theorem fCA{x:Nd}:∀ n∈wG x,n≤2:=by
 intro n hn;unfold wG at hn
 split at hn
 · unfold binds at hn
   split at hn
   · rw[List.mem_replicate]at hn;omega
   · split at hn
     · rcases List.mem_cons.1 hn with h | h
       · omega
       · rw[List.mem_replicate]at h;omega
     · exact sSA _ n hn
 · simp at hn
theorem aHA(x:Nd):(wG x).length≤8:=by
 unfold wG
 split
 · exact aM ‹_›
 · simp
def iI(t:List Nd):List (Nat×Nat):=dG t t.length [0]
theorem gZ(a b:List Nd):∀(k:Nat) (all op:List (Nat×Nat)),yC (a++b) k all op=(yC a k all op).bind fun r=>yC b (k+a.length) r.1 r.2:=by
 induction a with
 | nil=>intro k all op;simp[yC]
 | cons x a ih =>
   intro k all op;simp only[List.cons_append,yC]
   split
   · rfl
   · rw[ih,List.length_cons,show k+1+a.length=k+(a.length+1) by omega]
theorem hTA(t:List Nd):∀(k:Nat) (st:List Nat),∀ x∈dG t k st,x.1 < k:=by
 intro k
 induction k with
 | zero=>intro st x hx;cases st<;>simp[dG]at hx
 | succ k ih =>
   intro st x hx
   cases st with
   | nil=>simp[dG]at hx
   | cons u st =>
     simp only[dG]at hx
     split at hx
     · rcases List.mem_cons.1 hx with h | h
       · rw[h];exact Nat.lt_succ_self k
       · exact Nat.lt_succ_of_lt (ih _ x h)
     · simp at hx
theorem iLA:∀(t:List Nd) (k:Nat) (all op:List (Nat×Nat)) {r:List (Nat×Nat)×List (Nat×Nat)},yC t k all op=some r→∀ x∈t,zA x=true:=by
 intro t
 induction t with
 | nil=>intro k all op r h x hx;simp at hx
 | cons y t ih =>
   intro k all op r h x hx;simp only[yC]at h
   split at h
   · cases h
   · rename_i hn; rcases List.mem_cons.1 hx with e | e
     · rw [e]
       cases hr:zA y with
       | true=>rfl
       | false=>exact absurd (.inl hr) hn
     · exact ih _ _ _ h x e
theorem uK{t:List Nd}(h:gB t=0):∀ x∈t,zA x=true:=by
 unfold gB at h
 split at h
 · cases h
 · cases hm : yC t 0 [] [] with
   | none=>rw[hm]at h;cases h
   | some r=>exact iLA t 0 [] [] hm
theorem dU{x:Nd}(h:zA x=true)(hk:x.k=0):0≤x.n∧x.n≤99:=by
 unfold zA at h;simp[hk,fN,fM,fS,tV]at h;omega
def CntIs(t:List Nd)(k c:Nat):Prop:=∃ all op,yC (t.take k) 0 [] []=some (all,op)∧op.length=c
theorem CntIs.zero(t:List Nd):CntIs t 0 0:=⟨[],[],by simp[yC],rfl⟩
theorem CntIs.pred{t:List Nd}{k c:Nat}{x:Nd}(hx:t[k]? = some x)(h:CntIs t (k+1) c):∃ c',CntIs t k c'∧zA x=true∧(binds x).length≤c'∧c=c' - (binds x).length+1:=by
 obtain⟨all,op,hm,hc⟩:=h;obtain⟨hk,hxe⟩:=List.getElem?_eq_some_iff.1 hx;rw[List.take_succ_eq_append_getElem hk,gZ,hxe]at hm
 cases hr:yC (t.take k) 0 [] [] with
 | none=>rw[hr]at hm;cases hm
 | some r =>
   rw[hr]at hm;obtain⟨a0,o0⟩:=r;simp only[Option.bind_some,yC]at hm
   split at hm
   · cases hm
   · rename_i hn; have hr1 : zA x = true := by cases h : zA x with
      | true=>rfl
      | false=>exact absurd (.inl h) hn
     have hr2:¬ o0.length < (binds x).length:=fun h=>hn (.inr h)
     cases hm;refine⟨o0.length,⟨a0,o0,hr,rfl⟩,hr1,by omega,?_⟩;rw[← hc,List.length_append,List.length_take,List.length_singleton];omega
theorem CntIs.pos{t:List Nd}{k c:Nat}(hk:k < t.length)(h:CntIs t (k+1) c):1≤c:=by
 obtain⟨c',_,_,_,rfl⟩:=h.pred (List.getElem?_eq_getElem hk);omega
theorem cOA(t:List Nd):∀(k:Nat) (st:List Nat),k≤t.length→CntIs t k st.length→(dG t k st).length=k:=by
 intro k
 induction k with
 | zero=>intro st _ _;cases st<;>rfl
 | succ k ih =>
   intro st hk h;have hlt:k < t.length:=by omega
   have hx:=List.getElem?_eq_getElem hlt;have h1:=h.pos hlt
   cases st with
   | nil=>simp at h1
   | cons u st =>
     obtain⟨c',hc',hr,hb,he⟩:=h.pred hx;rw[aU hx,List.length_cons,ih _ (by omega)];rw[List.length_append,List.length_reverse,List.length_map];have:wG t[k]=binds t[k]:=by unfold wG;rw[if_pos hr]
     rw[this];have hl:(u::st).length=st.length+1:=List.length_cons ..;rw[show(binds t[k]).length+st.length=c' by omega];exact hc'
theorem sW{t:List Nd}(h:gB t=0):(iI t).length=t.length∧t.length≤4000:=by
 unfold gB at h
 split at h
 · cases h
 · cases hm : yC t 0 [] [] with
   | none=>rw[hm]at h;cases h
   | some r =>
     rw[hm]at h;obtain⟨all,op⟩:=r;simp only at h
     split at h
     · cases h
     · rename_i ho; refine ⟨cOA t t.length [0] (Nat.le_refl _) ⟨all, op, by rw [List.take_length]; exact hm, ?_⟩, by omega⟩; have : op.length = 1 := Decidable.not_not.1 ho
       simpa using this
structure Dc where
 kind:Int
 level:Int
 name:ByteArray
 type:List Nd
 body:List Nd
 cons:List (List (List Nd))
def DcV(w:World)(v:Value)(d:Dc):Prop:=∃ vt vb vc,v = .agg #[.int .i64 d.kind,.int .i64 d.level,.string d.name,vt,vb,vc]∧TermV w vt d.type∧TermV w vb d.body∧ConsV w vc d.cons
theorem ConsV.mono:zZA ConsV:=ListV.mono (ListV.mono TermV.mono)
theorem TermsV.mono:zZA TermsV:=ListV.mono TermV.mono
theorem DcV.mono:zZA DcV:=fun w w' v d hU ⟨vt,vb,vc,h1,h2,h3,h4⟩=>⟨vt,vb,vc,h1,TermV.mono _ _ _ _ hU h2,TermV.mono _ _ _ _ hU h3,ConsV.mono _ _ _ _ hU h4⟩
def aB(d:Dc):List (List Nd):=if d.kind=1 then [d.type,d.body] else if d.kind=2 then [d.type] else if d.kind=3 then d.cons.flatten else []
structure Small (d:Dc):Prop where
 name:d.name.size≤maxLen
 cons:d.cons.length≤5864062014634
 flat:d.cons.flatten.length≤5864062015658
 terms:∀ t∈aB d,t.length≤2000000∧∀ x∈t,x.s.size≤maxLen
end Go.Lx
namespace Go.Lx
open Go.RowKit
def RowsV{α:Type}(size:Nat)(R:World→List Value→α→Prop)(w:World)(p:Option Addr)(xs:List α):Prop :=
 ∃ rows:List (List Value),RowArg w p rows.flatten∧(∀ r∈rows,r.length=size)∧Zip (R w) rows xs
def b6A{α:Type}(R:World→List Value→α→Prop):Prop:=∀ w w' cs x,Under w w'→R w cs x→R w' cs x
theorem RowsV.under{α:Type}{size:Nat}{R:World→List Value→α→Prop}(hR:b6A R){w w':World}{p:Option Addr}{xs:List α}(h:RowsV size R w p xs)(hU:Under w w'):RowsV size R w' p xs:=by
 obtain⟨rows,h1,h2,h3⟩:=h;exact⟨rows,h1.under hU,h2,h3.mono fun v x=>hR _ _ _ _ hU⟩
theorem kLA{rows:List (List Value)}{size:Nat}(h:∀ r∈rows,r.length=size):rows.flatten.length=rows.length * size:=by
 induction rows with
 | nil=>simp
 | cons r l ih =>
   rw[List.flatten_cons,List.length_append,h r (List.mem_cons_self ..),ih fun x hx=>h x (List.mem_cons_of_mem _ hx),List.length_cons,Nat.add_mul,Nat.one_mul,Nat.add_comm]
theorem iT : ∀ {rows : List (List Value)} {size k j : Nat} {r : List Value} {u : Value}, (∀ r ∈ rows, r.length = size) → rows[k]? = some r → r[j]? = some u → rows.flatten[k * size + j]? = some u
  | x :: l, size, 0, j, r, u, h, hk, hj => by
    cases hk;rw[List.flatten_cons,Nat.zero_mul,Nat.zero_add,List.getElem?_append_left (List.getElem?_eq_some_iff.1 hj).1];exact hj
  | x :: l, size, k + 1, j, r, u, h, hk, hj => by
    have h0:=h x (List.mem_cons_self ..);rw[List.flatten_cons,List.getElem?_append_right (by rw[h0,Nat.add_mul];omega),h0,show(k+1) * size+j - size=k * size+j by rw[Nat.add_mul];omega];exact iT (fun x hx=>h x (List.mem_cons_of_mem _ hx)) (by simpa using hk) hj
theorem RowsV.at{α:Type}{size:Nat}{R:World→List Value→α→Prop}{w:World}{p:Option Addr}{xs:List α}(h:RowsV size R w p xs){k:Nat}{x:α}(hk:xs[k]? = some x)(hs:0 < size) :
 ∃ b off r,p=some ⟨b,off,none⟩∧b < w.heap.size∧r.length=size∧R w r x∧∀ j u,r[j]? = some u→w.cell? ⟨b,off+(k * size+j),none⟩=some u:=by
 obtain⟨rows,h1,h2,h3⟩:=h;obtain⟨r,hr,hR⟩:=h3.at hk;have hrl:=h2 r (List.mem_of_getElem? hr);have hne:rows.flatten≠[]:=by
  intro e;have:=iT (j:=0) (u:=r[0]'(by omega)) h2 hr (List.getElem?_eq_getElem (by omega));rw[e]at this;cases this
 obtain⟨b,off,e,hb,hc⟩:=h1 hne;exact⟨b,off,r,e,hb,hrl,hR,fun j u hj=>hc _ _ (iT h2 hr hj)⟩
theorem RowsV.nil{α:Type}{size:Nat}{R:World→List Value→α→Prop}{w:World}{p:Option Addr}:RowsV size R w p ([]:List α):=⟨[],RowArg.nil,fun r h=>(List.not_mem_nil h).elim,Zip.nil _⟩
theorem RowsV.of_own{α:Type}{size:Nat}{R:World→List Value→α→Prop}{w:World}{base:Nat}{e:TypeId}{v:Value}{n:Nat}{xs:List α}{rows:List (List Value)}(h:w.ownsRow base e size v n rows.flatten)(h2:∀ r∈rows,r.length=size)(h3:Zip (R w) rows xs) :
 ∃ q c,v = .slice q n c∧n≤c∧RowsV size R w q xs:=by
 obtain⟨q,c,e,hc,hr⟩:=RowArg.of_own h;exact⟨q,c,e,hc,rows,hr,h2,h3⟩
def DcRow(w:World)(cs:List Value)(d:Dc):Prop:=∃ vt vb vc,cs=[.int .i64 d.kind,.int .i64 d.level,.string d.name,vt,vb,vc]∧TermV w vt d.type∧TermV w vb d.body∧ConsV w vc d.cons
theorem DcRow.mono:b6A DcRow:=fun w w' cs d hU ⟨vt,vb,vc,h1,h2,h3,h4⟩=>⟨vt,vb,vc,h1,TermV.mono _ _ _ _ hU h2,TermV.mono _ _ _ _ hU h3,ConsV.mono _ _ _ _ hU h4⟩
theorem DcRow.val{w:World}{cs:List Value}{d:Dc}(h:DcRow w cs d):DcV w (.agg cs.toArray) d:=by
 obtain⟨vt,vb,vc,rfl,h1,h2,h3⟩:=h;exact⟨vt,vb,vc,rfl,h1,h2,h3⟩
theorem DcV.row{w:World}{v:Value}{d:Dc}(h:DcV w v d):∃ cs,v = .agg cs.toArray∧DcRow w cs d:=by
 obtain⟨vt,vb,vc,rfl,h1,h2,h3⟩:=h;exact⟨_,rfl,vt,vb,vc,rfl,h1,h2,h3⟩
def EntRow(w:World)(cs:List Value)(d:Dc):Prop:=∃ vt vb vc st q n c,cs=[.int .i64 d.kind,.int .i64 d.level,.string d.name,vt,vb,vc,.bool st,.slice q n c]∧TermV w vt d.type∧TermV w vb d.body∧ConsV w vc d.cons
theorem EntRow.mono:b6A EntRow:=fun w w' cs d hU ⟨vt,vb,vc,st,q,n,c,h1,h2,h3,h4⟩=>⟨vt,vb,vc,st,q,n,c,h1,TermV.mono _ _ _ _ hU h2,TermV.mono _ _ _ _ hU h3,ConsV.mono _ _ _ _ hU h4⟩
end Go.Lx
namespace Go.Lx
open Go.ChangeShapes Go.WideShapes Go.RowKit Go.Deep
theorem pZA{α:Type}{Q:Nat→α→Prop}(n:Nat)(h:∀ i,i < n→∃ t,Q i t):∃ l:List α,l.length=n∧∀ i t,l[i]? = some t→Q i t:=by
 induction n with
 | zero=>exact⟨[],rfl,fun i t h=>by simp at h⟩
 | succ n ih =>
   obtain⟨l,h1,h2⟩:=ih fun i hi=>h i (by omega)
   obtain⟨t,ht⟩:=h n (by omega);refine⟨l++[t],by simp[h1],fun i u hu=>?_⟩;rw[List.getElem?_append]at hu
   split at hu
   · exact h2 i u hu
   · rename_i hi; have h0 : i - l.length = 0 := by
      have:=(List.getElem?_eq_some_iff.1 hu).1;simp at this;omega
     rw[h0]at hu
     cases hu;have:i=n:=by omega
     exact this▸ht
theorem dPA{rows:List (List Value)}{size:Nat}(hs:0 < size)(h:∀ r∈rows,r.length=size){j:Nat}{u:Value}(hj:rows.flatten[j]? = some u):∃ r,rows[j / size]? = some r∧r[j % size]? = some u:=by
 have hlen:=kLA h;have hjl:=(List.getElem?_eq_some_iff.1 hj).1;rw[hlen]at hjl;have hk:j / size < rows.length:=(Nat.div_lt_iff_lt_mul hs).2 hjl;have hm:j % size < size:=Nat.mod_lt _ hs;have hr:=List.getElem?_eq_getElem hk;have hrl:=h _ (List.getElem_mem hk);refine⟨rows[j / size],hr,?_⟩;have:=iT (j:=j % size) (u:=rows[j / size][j % size]'(by omega)) h hr (List.getElem?_eq_getElem (by omega));rw[Nat.div_add_mod' j size]at this;rw[this]at hj
 cases hj;exact List.getElem?_eq_getElem _
section
variable {H : Type} {enc : TypeId × Value → H} {P : Program} {w : World} {spare : Nat → Bool} {held : Bool} {t e : TypeId} {fuel : Nat} {cs : List Value} {x : DataW H × List MemPlace}
theorem ListV.of_rows{α:Type}{R:World→Value→α→Prop}{p:Option Addr}{c:Nat}{xs:List α}(h:RowsV 1 (fun w cs a=>∃ v,cs=[v]∧R w v a) w p xs)(hc:xs.length≤c)(h0:p=none→c=0):ListV R w (.slice p xs.length c) xs:=by
 obtain⟨rows,h1,h2,h3⟩:=h;have hz:∀(rows:List (List Value)) (xs:List α),Zip (fun cs a=>∃ v,cs=[v]∧R w v a) rows xs→Zip (R w) rows.flatten xs:=by
  intro rows
  induction rows with
  | nil=>intro xs hz;obtain⟨e,_⟩:=hz;cases xs with | nil=>exact Zip.nil _ | cons=>cases e
  | cons r l ih =>
    intro xs hz
    cases xs with
    | nil=>cases hz.1
    | cons y ys =>
      obtain⟨v,rfl,hv⟩:=hz.2 0 r y rfl rfl;have ht:Zip (fun cs a=>∃ v,cs=[v]∧R w v a) l ys:=⟨by have:=hz.1;simpa using this,fun i v x hv hx=>hz.2 (i+1) v x (by simpa using hv) (by simpa using hx)⟩;have:=(Zip.one hv).app (ih ys ht)
      simpa using this
 exact⟨p,c,rows.flatten,rfl,hc,h0,h1,hz rows xs h3⟩
end
def wBA{H:Type}(l:List Nat):DataW H:=if l=[] then .nil else .slice (l.map fun(n:Nat)=>.lit (.int .i64 (n:Int))) []
def cTA{H:Type}(k:Nat):DataW H:=.agg [wBA (jH k),.lit (.bool (fN k)),.lit (.bool (fM k)),.lit (.bool (fS k))]
theorem uT{w:World}{b j:Nat}{v:Value}(h:w.cell? ⟨b,j,none⟩=some v):b < w.heap.size:=by
 simp only[World.cell?]at h
 cases hb:w.heap[b]? with
 | none=>simp[hb]at h
 | some o=>exact(Array.getElem?_eq_some_iff.1 hb).1
section
variable {H : Type} {enc : TypeId × Value → H} {P : Program} {w : World} {base : Nat} {spare : Nat → Bool} {held : Bool} {t e : TypeId} {fuel : Nat} {cs : List Value} {q : List MemPlace}
theorem v0A{l:List Nat}(ht:P.underlying t=some (.slice e))(he:P.underlying e=some (.int .i64))(hC:P.cellsOf e=1)(h:DataW.trod enc P w base spare held fuel t cs=some (wBA l,q)) :
 ∃ p c,cs=[.slice p l.length c]∧l.length≤c∧RowArg w p (uE l):=by
 rcases open_slice ht h with⟨rfl,hx⟩ | ⟨a,len,cap,m,n,D,Pl,rfl,_,hl,hm,hmm,hx,hi⟩
 · have : l = [] := by
     unfold wBA at hx
     split at hx
     · assumption
     · simp at hx
   subst this;exact⟨none,0,rfl,Nat.le_refl _,RowArg.nil⟩
 · have hlm : len ≤ m := by rw [hmm]; split <;> omega
   rw[hC]at hi;have hne:l≠[]:=by
    intro e;subst e;simp[wBA]at hx
   unfold wBA at hx;rw[if_neg hne]at hx;simp only[Prod.mk.injEq,DataW.slice.injEq]at hx;obtain⟨⟨hmap,_⟩,_⟩:=hx;have hlen:l.length=len:=by have:=congrArg List.length hmap;simpa using this
   have each:∀(i n':Nat),l[i]? = some n'→w.cell? (a.add (i * 1))=some (.int .i64 (n':Int)):=by
    intro i n' hn';have hil:=(List.getElem?_eq_some_iff.1 hn').1;obtain⟨cs',hc,ht'⟩:=hi i (by omega);obtain⟨_,hcl,hat⟩:=World.cells?_some hc;obtain⟨z,e1,e2,_⟩:=DataW.trod_int he ht';subst e1;have h0:=hat 0 (by decide);have hD:D i = .lit (.int .i64 (n':Int)):=by
     have:=congrArg (fun r=>r[i]?) hmap;simp only[List.getElem?_map,hn',Option.map_some,List.getElem?_range (show i < len by omega)]at this;exact(Option.some.inj this).symm
    have e3:D i = .lit (.int .i64 z):=congrArg Prod.fst e2;rw[hD]at e3
    cases e3
    simpa [Addr.add] using h0
   refine⟨some a,cap,by rw[hlen],by omega,fun _=>?_⟩;obtain⟨b,off,sp⟩:=a;have hp:0 < l.length:=List.length_pos_iff.2 hne;have c0:=each 0 l[0] (List.getElem?_eq_getElem hp);have hsp:sp=none:=by simpa [Addr.add] using World.cell?_spot c0
   subst hsp;refine⟨b,off,rfl,?_,fun j u hj=>?_⟩
   · rw[zM]at c0;exact uT c0
   · unfold uE at hj; rw [List.getElem?_map] at hj
     cases hq:l[j]? with
     | none=>rw[hq]at hj;cases hj
     | some n' =>
       rw[hq]at hj
       cases hj;have:=each j n' hq;rw[zM,Nat.mul_one]at this;exact this
theorem e7A{n size m':Nat}{ds:List (DataW H)}(ht:P.underlying t=some (.array n e))(hC:P.cellsOf e=size)(h:DataW.trod enc P w base spare held fuel t cs=some (.agg ds,q)){i:Nat}(hi:i < n) :
 ∃ d q' m,ds[i]? = some d∧DataW.trod enc P w base spare held m e ((cs.drop (i * size)).take size)=some (d,q'):=by
 obtain⟨xs,m,_,hx,_,hn,hel⟩:=DataW.trod_array ht h;simp only[Prod.mk.injEq,DataW.agg.injEq]at hx;have h1:=hel i hi;rw[hC]at h1;have hxi:xs[i]? = some xs[i]:=List.getElem?_eq_getElem (by omega);rw[hxi]at h1;exact⟨xs[i].1,xs[i].2,m,by rw[hx.1,List.getElem?_map,hxi];rfl,h1⟩
theorem q8{cs:List Value}{i size j:Nat}{v:Value}(h:((cs.drop (i * size)).take size)[j]? = some v):cs[i * size+j]? = some v:=by
 rw[List.getElem?_take]at h
 split at h
 · rw[List.getElem?_drop]at h;exact h
 · cases h
theorem fPA {g : Nat} {s ti : TypeId} {f0 f1 f2 f3 : Field} (hcell : ∀ j, w.cell? ⟨g, j, none⟩ = cs[j]?) (ht : P.underlying t = some (.array 30 s)) (hC : P.cellsOf s = 4) (hs : P.underlying s = some (.struct #[f0, f1, f2, f3])) (hone : oneCellFields P #[f0, f1, f2, f3] = true)
    (u0:P.underlying f0.type=some (.slice ti)) (ui:P.underlying ti=some (.int .i64)) (ci:P.cellsOf ti=1) (u1:P.underlying f1.type=some .bool) (u2:P.underlying f2.type=some .bool) (u3:P.underlying f3.type=some .bool)
    (h:DataW.trod enc P w base spare held fuel t cs=some (.agg ((List.range 30).map cTA),q)):ShapesAt g w:=by
  have each:∀ k,k < 30→∃ p c,w.cell? ⟨g,k * 4,none⟩=some (.slice p (jH k).length c)∧(jH k).length≤c∧RowArg w p (uE (jH k)) ∧
   w.cell? ⟨g,k * 4+1,none⟩=some (.bool (fN k))∧w.cell? ⟨g,k * 4+2,none⟩=some (.bool (fM k))∧w.cell? ⟨g,k * 4+3,none⟩=some (.bool (fS k)):=by
   intro k hk;obtain⟨d,q',m,hd,htr⟩:=e7A (m':=0) ht hC h hk;rw[List.getElem?_map,List.getElem?_range hk]at hd
   cases hd;obtain⟨ys,n',_,hx,hcl,hyl,hf⟩:=DataW.trod_struct hs htr;obtain⟨o0,k0⟩:=hone_of hone 0 f0 rfl;obtain⟨o1,k1⟩:=hone_of hone 1 f1 rfl;obtain⟨o2,k2⟩:=hone_of hone 2 f2 rfl;obtain⟨o3,k3⟩:=hone_of hone 3 f3 rfl;have g0:=hf 0 f0 rfl;have g1:=hf 1 f1 rfl;have g2:=hf 2 f2 rfl;have g3:=hf 3 f3 rfl;rw[o0,k0]at g0;rw[o1,k1]at g1;rw[o2,k2]at g2;rw[o3,k3]at g3;have hat:∀ j v,((cs.drop (k * 4)).take 4)[j]? = some v→w.cell? ⟨g,k * 4+j,none⟩=some v:=fun j v hj=>by rw[hcell];exact q8 hj
   rw[hC]at hcl;generalize (cs.drop (k * 4)).take 4=r at *
   match r,hcl with
   | [v0, v1, v2, v3], _ =>
     match ys,hyl with
     | [y0, y1, y2, y3], _ =>
       simp only[cTA,Prod.mk.injEq,DataW.agg.injEq,List.map_cons,List.map_nil,List.cons.injEq]at hx;obtain⟨⟨e0,e1,e2,e3,_⟩,_⟩:=hx;have g0':DataW.trod enc P w base spare held n' f0.type [v0]=some (wBA (jH k),y0.2):=by rw[e0];exact g0
       obtain⟨p,c,hv0,hc,hr⟩:=v0A u0 ui ci g0';obtain⟨b1,hv1,hb1⟩:=DataW.trod_bool u1 (x:=y1) g1;obtain⟨b2,hv2,hb2⟩:=DataW.trod_bool u2 (x:=y2) g2;obtain⟨b3,hv3,hb3⟩:=DataW.trod_bool u3 (x:=y3) g3;rw[hb1]at e1;rw[hb2]at e2;rw[hb3]at e3
       cases e1;cases e2;cases e3
       cases hv0;cases hv1;cases hv2;cases hv3;exact⟨p,c,hat 0 _ rfl,hc,hr,hat 1 _ rfl,hat 2 _ rfl,hat 3 _ rfl⟩
  refine⟨?_,each⟩;obtain⟨_,_,c0,_⟩:=each 0 (by decide);exact uT c0
end
end Go.Lx
namespace Go.Lx
theorem lZA{cs:List ByteArray}{p:Int}{s:ByteArray}{st:List ByteArray}{t:List Nd}(h:vL cs p s st = .ok t):t.length=1:=by
 unfold vL at h
 split at h
 · cases h;rfl
 · split at h
   · split at h
     · split at h
       · cases h
       · cases h;rfl
     · split at h
       · cases h;rfl
       · cases h
   · cases h
theorem o9 {cs ds : List ByteArray} : ∀ (ks : List PK) (ys : List ST) (x : Nd) (nms st : List ByteArray) (acc t : List Nd), (∀ y ∈ ys, ∀ st t, nT cs ds y st = .ok t → t.length ≤ (fC y).length) → goS cs ds ks ys x nms st acc = .ok t → t.length ≤ acc.length + (kC ys).length + 1
  | [], ys, x, nms, st, acc, t, _, h => by
    have:goS cs ds [] ys x nms st acc = .ok (acc++[x]):=by cases ys<;>simp[goS]
    rw[this]at h
    cases h;simp
  | k :: ks, [], x, nms, st, acc, t, _, h => by
    have:goS cs ds (k::ks) [] x nms st acc = .ok (acc++[x]):=by cases k<;>simp[goS]
    rw[this]at h
    cases h;simp
  | k :: ks, y :: ys, x, nms, st, acc, t, hy, h => by
    have hy':∀ z∈ys,∀ st t,nT cs ds z st = .ok t→t.length≤(fC z).length:=fun z hz=>hy z (List.mem_cons_of_mem _ hz)
    have hp:=hCA y;rw[kC,List.length_append]
    cases k with
    | nm =>
      rw[goS]at h
      split at h
      · have:=o9 ks ys _ _ _ _ _ hy' h;omega
      · cases h
    | nu =>
      rw[goS]at h
      split at h
      · split at h
        · have:=o9 ks ys _ _ _ _ _ hy' h;omega
        · cases h
      · cases h
    | da =>
      rw[goS]at h
      split at h
      · split at h
        · have:=o9 ks ys _ _ _ _ _ hy' h;omega
        · cases h
      · cases h
    | te w =>
      rw[goS]at h
      split at h
      · rename_i u hu;have h1:=hy y List.mem_cons_self _ _ hu;have:=o9 ks ys _ _ _ _ _ hy' h;rw[List.length_append]at this;omega
      · cases h
theorem z4A{cs ds:List ByteArray}(T:ST):∀ st t,nT cs ds T st = .ok t→t.length≤(fC T).length:=by
 induction T using ST.rec (motive_2:=fun l=>∀ a∈l,∀ st t,nT cs ds a st = .ok t→t.length≤(fC a).length) with
 | word p s =>
   intro st t h;rw[nT]at h;rw[lZA h,fC];simp
 | list p l ih =>
   intro st t h;rw[nT]at h
   cases l with
   | nil=>rw[cRA]at h;cases h
   | cons a l =>
     rw[cRA]at h
     split at h
     · cases h
     · split at h
       · have:=o9 _ _ _ _ _ _ _ (fun y hy=>ih y (List.mem_cons_of_mem _ hy)) h;rw[fC,kC,List.length_append,List.length_append];simp only[List.length_nil,List.length_singleton]at this ⊢;omega
       · cases h
 | nil=>rename_i a ha st t h;cases ha
 | cons a l iha ihl =>
   rename_i b hb st t h;rcases List.mem_cons.1 hb with rfl | hb
   · exact iha st t h
   · exact ihl b hb st t h
theorem fGA{s:ByteArray}(h:pX s=true):s.size≤16:=by
 unfold pX uD at h;simp at h;omega
theorem kQA{cs:List ByteArray}{p:Int}{s:ByteArray}{st:List ByteArray}{t:List Nd}(h:vL cs p s st = .ok t):∀ x∈t,x.s.size≤16:=by
 unfold vL at h
 split at h
 · cases h;intro x hx;rw[List.mem_singleton.1 hx];exact Nat.zero_le _
 · split at h
   · rename_i hk
     split at h
     · split at h
       · cases h
       · cases h;intro x hx;rw[List.mem_singleton.1 hx];exact Nat.zero_le _
     · split at h
       · cases h;intro x hx;rw[List.mem_singleton.1 hx];exact fGA hk
       · cases h
   · cases h
theorem dS {cs ds : List ByteArray} : ∀ (ks : List PK) (ys : List ST) (x : Nd) (nms st : List ByteArray) (acc t : List Nd), (∀ y ∈ ys, ∀ st t, nT cs ds y st = .ok t → ∀ z ∈ t, z.s.size ≤ 16) → x.s.size ≤ 16 → (∀ z ∈ acc, z.s.size ≤ 16) → goS cs ds ks ys x nms st acc = .ok t → ∀ z ∈ t, z.s.size ≤ 16
  | [], ys, x, nms, st, acc, t, _, hx, ha, h => by
    have:goS cs ds [] ys x nms st acc = .ok (acc++[x]):=by cases ys<;>simp[goS]
    rw[this]at h
    cases h;intro z hz;rcases List.mem_append.1 hz with hz | hz
    · exact ha z hz
    · rw[List.mem_singleton.1 hz];exact hx
  | k :: ks, [], x, nms, st, acc, t, _, hx, ha, h => by
    have:goS cs ds (k::ks) [] x nms st acc = .ok (acc++[x]):=by cases k<;>simp[goS]
    rw[this]at h
    cases h;intro z hz;rcases List.mem_append.1 hz with hz | hz
    · exact ha z hz
    · rw[List.mem_singleton.1 hz];exact hx
  | k :: ks, y :: ys, x, nms, st, acc, t, hy, hx, ha, h => by
    have hy':∀ z∈ys,∀ st t,nT cs ds z st = .ok t→∀ z∈t,z.s.size≤16:=fun z hz=>hy z (List.mem_cons_of_mem _ hz)
    cases k with
    | nm =>
      rw[goS]at h
      split at h
      · exact dS ks ys _ _ _ _ _ hy' hx ha h
      · cases h
    | nu =>
      rw[goS]at h
      split at h
      · split at h
        · refine dS ks ys _ _ _ _ _ hy' ?_ ha h;exact hx
        · cases h
      · cases h
    | da =>
      rw[goS]at h
      split at h
      · rename_i hk
        split at h
        · refine dS ks ys _ _ _ _ _ hy' ?_ ha h;exact fGA hk
        · cases h
      · cases h
    | te w =>
      rw[goS]at h
      split at h
      · rename_i u hu; refine dS ks ys _ _ _ _ _ hy' hx (fun z hz => ?_) h; rcases List.mem_append.1 hz with hz | hz
        · exact ha z hz
        · exact hy y List.mem_cons_self _ _ hu z hz
      · cases h
theorem lRA{cs ds:List ByteArray}(T:ST):∀ st t,nT cs ds T st = .ok t→∀ z∈t,z.s.size≤16:=by
 induction T using ST.rec (motive_2:=fun l=>∀ a∈l,∀ st t,nT cs ds a st = .ok t→∀ z∈t,z.s.size≤16) with
 | word p s =>
   intro st t h;rw[nT]at h;exact kQA h
 | list p l ih =>
   intro st t h;rw[nT]at h
   cases l with
   | nil=>rw[cRA]at h;cases h
   | cons a l =>
     rw[cRA]at h
     split at h
     · cases h
     · split at h
       · exact dS _ _ _ _ _ _ _ (fun y hy=>ih y (List.mem_cons_of_mem _ hy)) (Nat.zero_le _) (fun z hz=>by cases hz) h
       · cases h
 | nil=>rename_i a ha st t h z hz;cases ha
 | cons a l iha ihl =>
   rename_i b hb st t h z hz;rcases List.mem_cons.1 hb with rfl | hb
   · exact iha st t h z hz
   · exact ihl b hb st t h z hz
def v3A(cs ds:List ByteArray)(T:ST):Say:=match nT cs ds T [] with
 | .error x=>.error x
 | .ok t=>if gB t=0 then .ok t else .error (gB t,T.last.pos)
end Go.Lx
namespace Go.Lx
open Go Go.Conc
variable {H : Type} {enc : TypeId × Value → H}
theorem mU {a : Assume} {C : Checked} {os : Os} {f : FuncId} {fn : Func} {s : ChangeSpec} {conds : List PathCond} {apart fresh handsOn again : Bool} {X : World → Array Value → Prop}
    (hX:∀(w w':World) (args:Array Value),w.heap=w'.heap→X w args→X w' args)
    (own:ownKnob C.prog.godebug=none) (started:os.Started) (hfn:C.prog.funcs[f]? = some fn)
    (witness : ∃ (w : World) (tape : Tape) (i : Input), w.os = os ∧ (w.forCall tape i).Shaped C.prog ∧ i.vars = [] ∧ Input.okWide C.prog (w.forCall tape i) .any w.heap.size f i ∧
      ((s.pre enc C.prog fn conds apart (w.forCall tape i).memory i.args∧X (w.forCall tape i).memory i.args)∧sizedMet enc C.prog fn (OpenSpec.ofChange s) apart (w.forCall tape i).memory i.args)∧a.holds C.prog (lone (Frame.enter C.prog f i.args .normal) [] (w.forCall tape i)))
    (runs : ∀ (W : World) (base : Nat) (args : Array Value) (ds gs : List (DataW H)) (before : List MemPlace),
      (∀(j:Nat) t v,fn.params[j]? = some t→args[j]? = some v→Value.okWide C.prog W .any base t v) →
      DataW.Whole enc C.prog fn.params.toList s.vars apart W args.toList ds gs before →
      conds.all (PathCond.test C.prog ⟨fn.params.toList,ds,s.plain.varTypes C.prog,gs⟩)=true →
      (DataW.weightsEach C.prog (fn.params.toList++s.plain.varTypes C.prog) (ds++gs)).all (· ≤ reachBytes)=true→X W args →
      a.holds C.prog (lone (Frame.enter C.prog f args .normal) [] W) →
      ∃ M last o w' t',runNT C.prog (M+1) (solo (G (Frame.enter C.prog f args .normal) []) W) #[]=(.ended o w',t')∧runN C.prog M (solo (G (Frame.enter C.prog f args .normal) []) W) = .next last ∧
       step C.prog last = .ended o w'∧Conc.Good C.prog (fun v W'=>s.post enc C.prog fn apart fresh handsOn again W args v W') last o w' t') :
    ReturnsInLeavingWide a C os f .any (fun w args=>(s.pre enc C.prog fn conds apart w args∧X w args)∧sizedMet enc C.prog fn (OpenSpec.ofChange s) apart w args) (s.post enc C.prog fn apart fresh handsOn again):=by
  refine returnsInLeavingWide_of_good own started witness ?_;intro w tape i _ _ _ hok hpre hholds;obtain⟨_,_,_,fn',hfn',_,_,_,_,hval⟩:=hok;have e:fn'=fn:=Option.some.inj (hfn'.symm.trans hfn);subst e;obtain⟨⟨⟨ds,gs,before,hw,hc⟩,hx⟩,hz⟩:=hpre;have hw':=DataW.Whole.of_heap (w':=w.forCall tape i) (by rfl) hw;obtain⟨M,last,o,w',t',h1,h2,h3,h4⟩:=runs (w.forCall tape i) w.heap.size i.args ds gs before hval hw' hc (hz.weights hw) (hX _ _ _ (by rfl) hx) hholds;exact⟨M,last,o,w',t',h1,h2,h3,h4.mono fun v hp=>ChangeSpec.post_blind hp⟩
end Go.Lx
namespace Go.Lx
open Go
theorem kU (Lk : Looks) {p : Pinned} {s : OpenSpec} {c : OpenClaim} (kinds : List LaidKind) (tests : Bool) (har : Bool × String) (lk goes : Bool)
    (hc:c.holds p s) (hw:c.wfByText s=true) (htie:c.laidByTextAt Lk p kinds tests)
    (hst:c.start = .entering) (hnb:c.noBlocks=false∧c.again=false) (hm:p.checked.prog.mainIs=some (har.1,har.2.toList)) (hn:(!har.1&&har.2.isEmpty && !lk)=false)
    (hl:∀ f fn,p.checked.prog.funcNamed c.func=some f→p.checked.prog.funcs[f]? = some fn→lk=p.checked.prog.looks []∧∀(j:Nat) t,fn.params[j]? = some t→p.checked.prog.wantsStandIn t=false)
    (hg:goes=c.goesBy p.checked.prog) :
    Claim7.holds p (.plain s) { stood:={ row:=c,standIns:=[],harness:=har,looks:=lk },kinds:=[],alts:=[],goes:=goes,laidByText:=true,laidKinds:=kinds,laidTests:=tests,laidLooks:=Lk }:=by
  have h6:∀ r:OpenClaim,Claim7.isSixth { stood:={ row:=r,standIns:=[],harness:=har,looks:=lk },kinds:=[] }=false:=fun r=>by simpa [Claim7.isSixth] using hn
  refine⟨Claim7.tied_new_at Lk kinds tests (Claim7.new_of_sixth hc har lk hst hnb hm (h6 c) hl) hw,fun D hD=>?_,htie,(fun h=>by cases h),hg⟩
  cases hD
end Go.Lx
namespace Go.Lx
open Go.ChangeShapes Go.WideShapes Go.RowKit Go.Deep
theorem RowsV.split{α:Type}{size:Nat}{R:World→List Value→α→Prop}{G:α→Prop}{w:World}{p:Option Addr}{xs:List α}(h:RowsV size (fun w cs a=>R w cs a∧G a) w p xs):RowsV size R w p xs∧∀ a∈xs,G a:=by
 obtain⟨rows,h1,h2,h3⟩:=h;refine⟨⟨rows,h1,h2,h3.mono fun _ _ h=>h.1⟩,fun a ha=>?_⟩;obtain⟨i,hi⟩:=List.getElem?_of_mem ha;obtain⟨r,_,hr⟩:=h3.at hi;exact hr.2
theorem ListV.split{α:Type}{R:World→Value→α→Prop}{G:α→Prop}{w:World}{v:Value}{xs:List α}(h:ListV (fun w v a=>R w v a∧G a) w v xs):ListV R w v xs∧∀ a∈xs,G a:=by
 obtain⟨p,c,vs,h1,h2,h3,h4,h5⟩:=h;refine⟨⟨p,c,vs,h1,h2,h3,h4,h5.mono fun _ _ h=>h.1⟩,fun a ha=>?_⟩;obtain⟨i,hi⟩:=List.getElem?_of_mem ha;obtain⟨r,_,hr⟩:=h5.at hi;exact hr.2
def Reach{H:Type}(P:Program)(t:TypeId)(d:DataW H):Prop:=∀ n∈d.weights P t,n≤reachBytes
theorem lV {H : Type} {P : Program} {e : TypeId} : ∀ {l : List (DataW H)} {d : DataW H}, d ∈ l → ∀ n ∈ d.weights P e, n ∈ DataW.weightsAll P e l
  | y :: l, d, h, n, hn => by
    unfold DataW.weightsAll;rcases List.mem_cons.1 h with rfl | h
    · exact List.mem_append_left _ hn
    · exact List.mem_append_right _ (lV h n hn)
section
variable {H : Type} {enc : TypeId × Value → H} {P : Program} {w : World} {spare : Nat → Bool} {held : Bool} {t e : TypeId} {fuel : Nat} {cs : List Value} {x : DataW H × List MemPlace}
theorem xOA{elems rest:List (DataW H)}(ht:P.underlying t=some (.slice e))(h:Reach P t (.slice elems rest)):(elems.length+rest.length) * P.bytesOf e≤reachBytes∧∀ d∈elems,Reach P e d:=by
 unfold Reach at h;simp only[DataW.weights,ht]at h;exact⟨h _ (List.mem_cons_self ..),fun d hd n hn=>h n (List.mem_cons_of_mem _ (List.mem_append_left _ (lV hd n hn)))⟩
theorem oZ{ys:List (DataW H)}{fs:Array Field}{f:Field}{y:DataW H}{j:Nat}(ht:P.underlying t=some (.struct fs))(h:Reach P t (.agg ys))(hf:fs[j]? = some f)(hy:ys[j]? = some y):Reach P f.type y:=by
 unfold Reach at h;simp only[DataW.weights,ht]at h;exact fun n hn=>h n (DataW.weights_mem_each (j:=j) (t:=f.type) (d:=y) (by simp[hf]) hy n hn)
theorem eAA {α : Type} {R : World → List Value → α → Prop} {size : Nat} (ht : P.underlying t = some (.slice e)) (hC : P.cellsOf e = size) (hs : 0 < size)
    (hopen:∀ fuel cs x,cs.length=size→DataW.trod enc P w 0 spare held fuel e cs=some x→Reach P e x.1→∃ a,R w cs a) (h:DataW.trod enc P w 0 spare held fuel t cs=some x) (hz:Reach P t x.1) :
    ∃(p:Option Addr) (c:Nat) (xs:List α),cs=[.slice p xs.length c]∧xs.length≤c∧(p=none→c=0)∧RowsV size R w p xs∧xs.length * P.bytesOf e≤reachBytes:=by
  rcases open_slice ht h with⟨rfl,_⟩ | ⟨a,len,cap,m,n,D,Pl,rfl,_,hl,hm,hmm,rfl,hi⟩
  · exact⟨none,0,[],rfl,Nat.le_refl _,fun _=>rfl,RowsV.nil,by simp⟩
  · have hlm : len ≤ m := by rw [hmm]; split <;> omega
    obtain⟨hz1,hz2⟩:=xOA ht hz;rw[hC]at hi;have each:∀ i,i < len→∃ q:List Value×α,q.1.length=size∧R w q.1 q.2∧∀ j u,q.1[j]? = some u→w.cell? ((a.add (i * size)).add j)=some u:=by
     intro i hlt; obtain ⟨cs', hc, ht'⟩ := hi i (by omega); obtain ⟨_, hcl, hat⟩ := World.cells?_some hc; obtain ⟨b, hb⟩ := hopen _ _ _ hcl ht' (hz2 _ (List.mem_map.2 ⟨i, List.mem_range.2 hlt, rfl⟩)); exact ⟨(cs', b), hcl, hb, fun j u hj => by
       have hjl:=(List.getElem?_eq_some_iff.1 hj).1;have hj':cs'[j]? = some u:=hj;rw[hat j (by have:(cs',b).1.length=cs'.length:=rfl;omega)];exact hj'⟩
    obtain⟨l,hll,hl2⟩:=pZA len each;refine⟨some a,cap,l.map (·.2),by simp[hll],by simpa [hll] using hl,(fun h=>by cases h),⟨l.map (·.1),?_,?_,?_⟩,?_⟩
    · intro hne; obtain ⟨b, off, sp⟩ := a; have hrows : ∀ r ∈ l.map (·.1), r.length = size := by
       intro r hr;obtain⟨q,hq,rfl⟩:=List.mem_map.1 hr;obtain⟨i,hi'⟩:=List.getElem?_of_mem hq;exact(hl2 i q hi').1
      obtain⟨u0,hu0⟩:∃ u,(l.map (·.1)).flatten[0]? = some u:=by
       cases hf:(l.map (·.1)).flatten with
       | nil=>exact absurd hf hne
       | cons y ys=>exact⟨y,rfl⟩
      have cellof:∀ j u,(l.map (·.1)).flatten[j]? = some u→w.cell? ((Addr.add ⟨b,off,sp⟩ (j / size * size)).add (j % size))=some u:=by
       intro j u hj;obtain⟨r,hr,hru⟩:=dPA hs hrows hj;rw[List.getElem?_map]at hr
       cases hq:l[j / size]? with
       | none=>rw[hq]at hr;cases hr
       | some q =>
         rw[hq]at hr
         cases hr;exact(hl2 _ q hq).2.2 _ u hru
      have c0:=cellof 0 u0 hu0;have hsp:sp=none:=by
       have:=World.cell?_spot c0
       simpa [Addr.add] using this
      subst hsp;refine⟨b,off,rfl,?_,fun j u hj=>?_⟩
      · simp only [World.cell?, Addr.add] at c0; simp at c0
        cases hb:w.heap[b]? with
        | none=>simp[hb]at c0
        | some o=>exact(Array.getElem?_eq_some_iff.1 hb).1
      · have:=cellof j u hj;rw[zM,zM,Nat.add_assoc,Nat.div_add_mod' j size]at this;exact this
    · intro r hr;obtain⟨q,hq,rfl⟩:=List.mem_map.1 hr;obtain⟨i,hi'⟩:=List.getElem?_of_mem hq;exact(hl2 i q hi').1
    · refine ⟨by simp, fun i v y hv hy => ?_⟩; rw [List.getElem?_map] at hv hy
      cases hq:l[i]? with
      | none=>rw[hq]at hv;cases hv
      | some q =>
        rw[hq]at hv hy
        cases hv;cases hy;exact(hl2 i q hq).2.1
    · rw[List.length_map,List.length_range]at hz1;rw[List.length_map,hll];exact Nat.le_trans (Nat.mul_le_mul_right _ (Nat.le_add_right _ _)) hz1
theorem rX {α : Type} {R : World → Value → α → Prop} (ht : P.underlying t = some (.slice e)) (hC : P.cellsOf e = 1)
    (hopen:∀ fuel cs x,DataW.trod enc P w 0 spare held fuel e cs=some x→Reach P e x.1→∃ v a,cs=[v]∧R w v a) (h:DataW.trod enc P w 0 spare held fuel t cs=some x) (hz:Reach P t x.1) :
    ∃ v xs,cs=[v]∧ListV R w v xs∧xs.length * P.bytesOf e≤reachBytes:=by
  obtain ⟨p, c, xs, rfl, hc, h0, hr, hb⟩ := eAA (R := fun w cs a => ∃ v, cs = [v] ∧ R w v a) ht hC (by decide) (fun fuel cs x _ hx hz => by
    obtain⟨v,a,rfl,hv⟩:=hopen fuel cs x hx hz;exact⟨a,v,rfl,hv⟩) h hz
  exact⟨_,xs,rfl,ListV.of_rows hr hc h0,hb⟩
def gQ(l:List Nd):Prop:=l.length≤maxLen∧∀ x∈l,x.s.size≤maxLen
theorem zIA {f0 f1 f2 f3 : Field} (ht : P.underlying t = some (.slice e)) (he : P.underlying e = some (.struct #[f0, f1, f2, f3])) (hone : oneCellFields P #[f0, f1, f2, f3] = true) (hC : P.cellsOf e = 4) (hbp : 0 < P.bytesOf e)
    (u0:P.underlying f0.type=some (.int .i64)) (u1:P.underlying f1.type=some (.int .i64)) (u2:P.underlying f2.type=some (.int .i64)) (u3:P.underlying f3.type=some .string) (h:DataW.trod enc P w 0 spare held fuel t cs=some x) (hz:Reach P t x.1) :
    ∃ v l,cs=[v]∧TermV w v l∧gQ l:=by
  obtain ⟨p, c, xs, rfl, hc, h0, hrows, hlen⟩ := eAA (R := fun _ cs (a : Nd) => cs = wRA a ∧ a.s.size ≤ maxLen) ht hC (by decide) (fun fuel cs x hcl hx _ => by
    obtain⟨ys,n',_,_,_,hyl,hf⟩:=DataW.trod_struct he hx;obtain⟨o0,k0⟩:=hone_of hone 0 f0 rfl;obtain⟨o1,k1⟩:=hone_of hone 1 f1 rfl;obtain⟨o2,k2⟩:=hone_of hone 2 f2 rfl;obtain⟨o3,k3⟩:=hone_of hone 3 f3 rfl;have g0:=hf 0 f0 rfl;have g1:=hf 1 f1 rfl;have g2:=hf 2 f2 rfl;have g3:=hf 3 f3 rfl;rw[o0,k0]at g0;rw[o1,k1]at g1;rw[o2,k2]at g2;rw[o3,k3]at g3
    match cs,hcl with
    | [v0, v1, v2, v3], _ =>
      match ys,hyl with
      | [y0, y1, y2, y3], _ =>
        obtain⟨z0,e0,_,_⟩:=DataW.trod_int u0 (x:=y0) g0;obtain⟨z1,e1,_,_⟩:=DataW.trod_int u1 (x:=y1) g1;obtain⟨z2,e2,_,_⟩:=DataW.trod_int u2 (x:=y2) g2;obtain⟨z3,e3,_,hz3⟩:=DataW.trod_string u3 (x:=y3) g3
        cases e0;cases e1;cases e2;cases e3;exact⟨⟨z0,z1,z2,z3⟩,rfl,hz3⟩) h hz
  obtain⟨⟨rows,hr1,hr2,hr3⟩,hnm⟩:=RowsV.split hrows;refine⟨_,xs,rfl,⟨p,c,rfl,hc,h0,?_⟩,Nat.le_trans (Nat.le_mul_of_pos_right _ hbp) (Nat.le_trans hlen (by decide)),hnm⟩;have:∀(rows:List (List Value)) (xs:List Nd),Zip (fun cs a=>cs=wRA a) rows xs→rows.flatten=wB xs:=by
   intro rows
   induction rows with
   | nil=>intro xs hz;obtain⟨e,_⟩:=hz;cases xs with | nil=>rfl | cons=>cases e
   | cons r l ih =>
     intro xs hz
     cases xs with
     | nil=>cases hz.1
     | cons y ys =>
       obtain rfl:=hz.2 0 r y rfl rfl;have ht:Zip (fun cs a=>cs=wRA a) l ys:=⟨by have:=hz.1;simpa using this,fun i v x hv hx=>hz.2 (i+1) v x (by simpa using hv) (by simpa using hx)⟩;rw[List.flatten_cons,ih ys ht];rfl
  rw[← this rows xs hr3];exact hr1
structure SzD (d:Dc):Prop where
 name:d.name.size≤maxLen
 cons:d.cons.length≤5864062014634
 con:∀ c∈d.cons,c.length≤5864062014634
 type:gQ d.type
 body:gQ d.body
 terms:∀ c∈d.cons,∀ t∈c,gQ t
theorem xWA{n:Nat}(h:n * 24≤reachBytes):n≤5864062014634:=by unfold reachBytes at h;omega
theorem wIA {e2 e3 : TypeId} (ht : P.underlying t = some (.slice e)) (hC : P.cellsOf e = 1) (hb : P.bytesOf e = 24) (ht2 : P.underlying e = some (.slice e2)) (hC2 : P.cellsOf e2 = 1) (hb2 : P.bytesOf e2 = 24)
    (hopen:∀ fuel cs x,DataW.trod enc P w 0 spare held fuel e2 cs=some x→Reach P e2 x.1→∃ v l,cs=[v]∧TermV w v l∧gQ l) (h:DataW.trod enc P w 0 spare held fuel t cs=some x) (hz:Reach P t x.1) :
    ∃ v l,cs=[v]∧ConsV w v l∧l.length≤5864062014634∧∀ c∈l,c.length≤5864062014634∧∀ t∈c,gQ t:=by
  obtain ⟨v, l, rfl, hl, hn⟩ := rX (R := fun w v (a : List (List Nd)) => TermsV w v a ∧ (a.length ≤ 5864062014634 ∧ ∀ t ∈ a, gQ t)) ht hC (fun fuel cs x hx hz => by
    obtain ⟨v, a, rfl, ha, hn⟩ := rX (R := fun w v (a : List Nd) => TermV w v a ∧ gQ a) ht2 hC2 (fun fuel cs x hx hz => by
      obtain⟨v,l,h1,h2⟩:=hopen fuel cs x hx hz;exact⟨v,l,h1,h2⟩) hx hz
    obtain⟨h1,h2⟩:=ListV.split ha;exact⟨v,a,rfl,h1,xWA (hb2▸hn),h2⟩) h hz
  obtain⟨h1,h2⟩:=ListV.split hl;exact⟨v,l,rfl,h1,xWA (hb▸hn),h2⟩
theorem eJA {s : TypeId} {f0 f1 f2 f3 f4 f5 : Field} (he : P.underlying s = some (.struct #[f0, f1, f2, f3, f4, f5])) (hone : oneCellFields P #[f0, f1, f2, f3, f4, f5] = true)
    (u0:P.underlying f0.type=some (.int .i64)) (u1:P.underlying f1.type=some (.int .i64)) (u2:P.underlying f2.type=some .string)
    (h3:∀ fuel cs x,DataW.trod enc P w 0 spare held fuel f3.type cs=some x→Reach P f3.type x.1→∃ v l,cs=[v]∧TermV w v l∧gQ l) (h4:∀ fuel cs x,DataW.trod enc P w 0 spare held fuel f4.type cs=some x→Reach P f4.type x.1→∃ v l,cs=[v]∧TermV w v l∧gQ l)
    (h5:∀ fuel cs x,DataW.trod enc P w 0 spare held fuel f5.type cs=some x→Reach P f5.type x.1→∃ v l,cs=[v]∧ConsV w v l∧l.length≤5864062014634∧∀ c∈l,c.length≤5864062014634∧∀ t∈c,gQ t)
    (hcl:cs.length=6) (hx:DataW.trod enc P w 0 spare held fuel s cs=some x) (hz:Reach P s x.1):∃ d,DcRow w cs d∧SzD d:=by
  obtain⟨ys,n',_,hxe,_,hyl,hf⟩:=DataW.trod_struct he hx;obtain⟨o0,k0⟩:=hone_of hone 0 f0 rfl;obtain⟨o1,k1⟩:=hone_of hone 1 f1 rfl;obtain⟨o2,k2⟩:=hone_of hone 2 f2 rfl;obtain⟨o3,k3⟩:=hone_of hone 3 f3 rfl;obtain⟨o4,k4⟩:=hone_of hone 4 f4 rfl;obtain⟨o5,k5⟩:=hone_of hone 5 f5 rfl;have g0:=hf 0 f0 rfl;have g1:=hf 1 f1 rfl;have g2:=hf 2 f2 rfl;have g3:=hf 3 f3 rfl;have g4:=hf 4 f4 rfl;have g5:=hf 5 f5 rfl;rw[o0,k0]at g0;rw[o1,k1]at g1;rw[o2,k2]at g2;rw[o3,k3]at g3;rw[o4,k4]at g4;rw[o5,k5]at g5
  match cs,hcl with
  | [v0, v1, v2, v3, v4, v5], _ =>
    match ys,hyl with
    | [y0, y1, y2, y3, y4, y5], _ =>
      obtain⟨z0,e0,_,_⟩:=DataW.trod_int u0 (x:=y0) g0;obtain⟨z1,e1,_,_⟩:=DataW.trod_int u1 (x:=y1) g1;obtain⟨z2,e2,_,hz2⟩:=DataW.trod_string u2 (x:=y2) g2;subst hxe;obtain⟨q3,l3,e3,r3,n3⟩:=h3 _ _ y3 g3 (oZ he hz (j:=3) rfl rfl);obtain⟨q4,l4,e4,r4,n4⟩:=h4 _ _ y4 g4 (oZ he hz (j:=4) rfl rfl);obtain⟨q5,l5,e5,r5,n5,m5⟩:=h5 _ _ y5 g5 (oZ he hz (j:=5) rfl rfl)
      cases e0;cases e1;cases e2;cases e3;cases e4;cases e5;exact⟨⟨z0,z1,z2,l3,l4,l5⟩,⟨_,_,_,rfl,r3,r4,r5⟩,hz2,n5,fun c hc=>(m5 c hc).1,n3,n4,fun c hc=>(m5 c hc).2⟩
end
end Go.Lx
