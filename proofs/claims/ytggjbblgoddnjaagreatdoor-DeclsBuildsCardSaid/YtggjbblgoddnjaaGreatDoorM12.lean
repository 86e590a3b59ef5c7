/- Part 12 of what the proof rests on. -/
import Derived.Conc.LeavingOf
import Derived.Laws.IdiomCopy
import Derived.Lib.SlicesS
import Derived.OrdersHeld
import Derived.Deep.RegionHeld
import Derived.Deep.Slices
import Derived.Deep.Fields
import Derived.WideKeyArgs
import Derived.Test.YtggjbblgoddnjaaGreatDoorM00
import Derived.Test.YtggjbblgoddnjaaGreatDoorM01
import Derived.Test.YtggjbblgoddnjaaGreatDoorM02
import Derived.Test.YtggjbblgoddnjaaGreatDoorM04
import Derived.Test.YtggjbblgoddnjaaGreatDoorM11
set_option linter.unusedSimpArgs false
set_option linter.unusedVariables false
namespace Go.Lx
open Go.Conc
open Go.ConcN (sumTo upd sumTo_upd upd_ne upd_same)
variable {P : Program}
theorem eNA{fr:Frame}{w:World}{v:Value}{fn:Func}{t:Tmp}(h:fr.leaving P w (.returned v))(hfn:P.funcs[fr.fn]? = some fn)(hres:fn.results=#[.tmp t])(hi:P.inits.idxOf? fr.fn=none) :
 stepG P true (G fr []) w = .ended (.done v) w #[]:=by
 obtain⟨hm,hd,hk,fn',hf,hr⟩:=h;have e:fn'=fn:=Option.some.inj (hf.symm.trans hfn);subst e;have he:(results fn' fr.tmps).events P w #[]=#[]:=events_results_tmp hres _ _;simp[G,stepG,unwind,doReturn,hm,hd,hk,hf,hr,hi,he,seen_none,GStep.after]
theorem cVA {fn : Func} {f : FuncId} {tt : Tmp} {Post : Value → World → Prop} {fr : Frame} {w : World} {v : Value} (hfn : P.funcs[f]? = some fn) (hres : fn.results = #[.tmp tt]) (hi : P.inits.idxOf? f = none) (hff : fr.fn = f)
    (hl:∀ τ d,fr.leaving P (re w τ d) (.returned v)) (hp:∀ τ d,Post v (re w τ d)) :
    ∀(L e:Nat) (gs:Array Goroutine) (sl:Option (Nat×Nat)) (t:Trace) (q:Nat→Nat),sumTo gs.size q=L→gs[0]? = some (G fr [])→Leavers P t gs q→Kn t →
     ∃ M last o w' t',runNT P (M+1) (crowd gs (w.at e) sl) t=(.ended o w',t')∧runN P M (crowd gs (w.at e) sl) = .next last∧step P last = .ended o w'∧Conc.Good P Post last o w' t':=by
  intro L
  induction L using Nat.strongRecOn with
  | ind L ih =>
  intro e0 gs sl t q hL h0 hL' hK;have hlt0:0 < gs.size:=(Array.getElem?_eq_some_iff.1 h0).1;have hrun:(G fr []).status = .running:=rfl;have haw:∀ x∈gs,awake x:=by
   intro x hx;obtain⟨i,hi,rfl⟩:=Array.mem_iff_getElem.1 hx;rcases Nat.eq_zero_or_pos i with rfl | hpos
   · have : gs[0] = G fr [] := by simpa [Array.getElem?_eq_getElem hi] using h0
     rw[this];exact awake_of (.inl hrun)
   · exact awake_of ((hL'.old i _ hpos (Array.getElem?_eq_getElem hi)).status.elim .inl fun x=>.inr (.inr x))
  obtain⟨i,x,e,sl',hi',hx,hst⟩:=crowd_pick (P:=P) (w:=w.at e0) (sl:=sl) haw ⟨0,_,h0,hrun⟩;have hat:(w.at e0).at e=w.at e:=rfl;rw[hat]at hst;rcases Nat.eq_zero_or_pos i with rfl | hpos
  · rw [h0] at hi'; obtain rfl := Option.some.inj hi'; have hend := eNA (hl w.tape e) (hff ▸ hfn) hres (hff ▸ hi); have hrunT := runT_many_ended (P := P) (sl := sl') (i := 0) h0 (show stepG P (0 == 0) _ _ = _ from hend); have hstp := hst.trans hrunT; have hemp : MemOp.ofEvents 0 (G fr []).frame.fn (G fr []).frame.place #[] = #[] := rfl; rw [hemp] at hstp; refine ⟨0, crowd gs (w.at e0) sl, .done v, w.at e, t, ?_, rfl, ?_, v, rfl, hp w.tape e, hK.clean, hK.over, ⟨fun x hx => ?_, rfl⟩, fun j x hx hj => ?_⟩
    · simp only[runNT];rw[hstp];simp;rfl
    · rw[step,hstp];rfl
    · obtain⟨j,hj⟩:=List.mem_iff_getElem?.1 hx;rw[List.getElem?_drop]at hj;exact⟨_,(hL'.old (1+j) x (by omega) (by simpa [crowd] using hj)).leaves⟩
    · exact⟨q j,(hL'.old j x (by omega) hx).hears _⟩
  · have hq := hL'.old i x hpos hi'; have hi0 : (i == 0) = false := by simp; omega
    have hlt:i < gs.size:=(Array.getElem?_eq_some_iff.1 hi').1
    cases hqi:q i with
    | zero=>rw[hqi]at hq;rw[hq.1]at hx;cases hx
    | succ k =>
      rw[hqi]at hq;rcases hq with⟨hf,_⟩ | ⟨_,g',es,hm,hstp,hq'⟩
      · rw[hf]at hx;cases hx
      have hund:(gs.map (woken P x g' (w.at e))).setIfInBounds i g'=gs.setIfInBounds i g':=by
       refine wG fun j y _ hy=>?_
       rcases Nat.eq_zero_or_pos j with rfl | hj
       · rw[h0]at hy;obtain rfl:=Option.some.inj hy;exact .inl hrun
       · exact(hL'.old j y hj hy).status.imp id .inl
      have hu:∀ op∈MemOp.ofEvents i x.frame.fn x.frame.place es,op.g=i:=fun op hop=>by obtain⟨e,_,rfl⟩:=Conc.mem_ofEvents hop;rfl
      rw [runT_crowd_go (P := P) (i := i) hi' (by rw [hi0]; exact hstp (w.at e)), hund] at hst; obtain ⟨M, last, o, w', t', h1, h2, h3, h4⟩ := ih (sumTo (gs.setIfInBounds i g').size (upd q i k)) (by rw [← hL, Array.size_setIfInBounds]; exact jQ hlt hqi) e _ sl' (t ++ MemOp.ofEvents i x.frame.fn x.frame.place es) (upd q i k) rfl (by rw [Array.getElem?_setIfInBounds_ne (by omega)]; exact h0) ⟨fun j y hj hy => by
          by_cases hji:i=j
          · subst hji;rw[lH hlt]at hy;obtain rfl:=Option.some.inj hy;rw[upd_same,Deaf_own];exact hq'
          · rw[Array.getElem?_setIfInBounds_ne hji]at hy;rw[upd_ne q k (Ne.symm hji),Deaf_other t hji _ hu];exact hL'.old j y hj hy,fun j hj=>by
          have hj':gs.size≤j:=by simpa using hj
          rw[Deaf_other t (g':=i) (by omega) _ hu];exact hL'.above j hj'⟩
        (hK.appMute (g:=i) (by omega) hu (fun op hop=>by obtain⟨e,he,rfl⟩:=Conc.mem_ofEvents hop;exact touch_mute (hm e he)))
      refine⟨M+1,last,o,w',t',?_,?_,h3,h4⟩
      · rw[runNT,hst];exact h1
      · rw[runN,step,hst];exact h2
theorem pR {fn : Func} {f : FuncId} {tt : Tmp} {args : Array Value} {W : World} {Post : Value → World → Prop} (hfn : P.funcs[f]? = some fn) (hb : fn.body.isSome = true) (hres : fn.results = #[.tmp tt]) (hi : P.inits.idxOf? f = none)
    (h:CallsG P f args W fun v w=>∀ τ d,Post v (re w τ d)) :
    ∃ M last o w' t',runNT P (M+1) (solo (G (Frame.enter P f args .normal) []) W) #[]=(.ended o w',t')∧runN P M (solo (G (Frame.enter P f args .normal) []) W) = .next last∧step P last = .ended o w'∧Conc.Good P Post last o w' t':=by
  have hgok:GOk (G (Frame.enter P f args .normal) []):=by
   obtain⟨c,hc⟩:=Option.isSome_iff_exists.1 hb;refine⟨fun i hi=>?_,by simp[G],by simp[mE,G]⟩;simp[G,Frame.enter,hfn,hc]at hi;subst hi;trivial
  obtain ⟨N, gs', g', w', sl', t', q', hr, h0, ⟨_, _, v, fr, rfl, hff, hl, hp⟩, hL, hK⟩ := h [] hgok rfl W.tape W.drawn #[G (Frame.enter P f args .normal) []] none #[] (fun _ => 0) rfl
    ⟨fun i g hi hg => by
      have:=(Array.getElem?_eq_some_iff.1 hg).1;simp at this;omega,fun j _=>by simp[Deaf,Trace.deaf]⟩ n2A
  obtain⟨M,last,o,w'',t'',h1,h2,h3,h4⟩:=cVA (Post:=Post) hfn hres hi hff hl hp _ w'.drawn gs' sl' t' q' rfl h0 hL hK;have hr:runNT P N (crowd #[G (Frame.enter P f args .normal) []] W none) #[]=(.next (crowd gs' w' sl'),t'):=hr;rw[solo_eq_crowd];refine⟨N+M,last,o,w'',t'',?_,?_,h3,h4⟩
  · rw[Nat.add_assoc,kBA N (M+1) _ _ _ _ hr];exact h1
  · have : runN P N (crowd #[G (Frame.enter P f args .normal) []] W none) = .next (crowd gs' w' sl') := by rw [← runNT_fst P N _ #[]]; exact congrArg Prod.fst hr
    rw[runN_add,this];exact h2
end Go.Lx
namespace Go.Lx
theorem Under.re{W w:World}(h:Under W w)(τ:Nat→Question→Nat)(d:Nat):Under W (re w τ d):=⟨h.os,h.output,h.size,h.low⟩
variable {P : Program}
theorem tDA:∀(n:Nat) (a:Addr) (acc:ByteArray),Ok P (Extern.Bytes.loadBytes a n acc):=by
 intro n
 induction n with
 | zero=>intro a acc;exact Ok.pure
 | succ n ih =>
   intro a acc;unfold Extern.Bytes.loadBytes;refine Ok.bind gX fun v=>?_
   split
   · exact ih _ _
   · exact nA
theorem wIA:∀ v,Ok P (Extern.Bytes.bytesOf v):=by
 intro v;unfold Extern.Bytes.bytesOf
 repeat' (first | (with_reducible exact Ok.pure) | (with_reducible exact Ok.halt trivial) | (with_reducible apply tDA) | (with_reducible apply nA) | (with_reducible apply Ok.bind) | (with_reducible apply Ok.map) | intro _ | split | dsimp only)
theorem yLA:∀ v,Ok P (Extern.Bytes.asByte v):=by
 intro v;unfold Extern.Bytes.asByte
 repeat' (first | (with_reducible exact Ok.pure) | (with_reducible exact Ok.halt trivial) | (with_reducible apply nA) | (with_reducible apply Ok.bind) | (with_reducible apply Ok.map) | intro _ | split | dsimp only)
theorem rDA:∀ args,Ok P (Extern.BytealgIndexByte.indexByte args):=by
 intro args;obtain⟨l⟩:=args;rcases l with _ | ⟨x,_ | ⟨y,_ | ⟨z,t⟩⟩⟩
 · exact nA
 · exact nA
 · refine Ok.bind (wIA x) fun a => Ok.bind (yLA y) fun b => ?_
   repeat' (first | (with_reducible exact Ok.pure) | (with_reducible exact Ok.halt trivial) | (with_reducible apply Ok.bind) | (with_reducible apply Ok.map) | intro _ | split | dsimp only)
 · exact nA
theorem bVA:∀ args,Ok P (Extern.AbiNoEscape.same args):=by
 intro args;obtain⟨l⟩:=args;rcases l with _ | ⟨x,_ | ⟨y,t⟩⟩
 · exact nA
 · exact Ok.pure
 · exact nA
theorem oW:∀ s,Ok P (Extern.RuntimeError.text s):=by
 intro s;unfold Extern.RuntimeError.text
 repeat' (first | (with_reducible exact Ok.pure) | (with_reducible exact Ok.halt trivial) | (with_reducible apply Ok.bind) | (with_reducible apply Ok.map) | intro _ | split | dsimp only)
theorem l9:∀ args,Ok P (Extern.RuntimeError.boundsError args):=by
 intro args;obtain⟨l⟩:=args;rcases l with _ | ⟨x,_ | ⟨y,t⟩⟩
 · exact nA
 · cases x <;> first | exact nA | skip
   rename_i a;obtain⟨l⟩:=a;rcases l with _ | ⟨a,_ | ⟨b,_ | ⟨c,_ | ⟨d,_ | ⟨e,t⟩⟩⟩⟩⟩
   · exact nA
   · cases a<;>exact nA
   · cases a<;>cases b<;>exact nA
   · cases a<;>cases b<;>first | exact nA | (cases c<;>exact nA)
   · cases a <;> first | exact nA | skip
     cases b<;>first | exact nA | skip
     cases c<;>first | exact nA | skip
     cases d<;>first | exact nA | skip
     rename_i k1 n1 k2 n2 b k3 n3
     conv=>arg 2;whnf
     split
     · exact oW _
     · exact nA
   · cases a<;>cases b<;>first | exact nA | (cases c<;>first | exact nA | (cases d<;>exact nA))
 · exact nA
theorem yT:∀ v,Ok P (Extern.RuntimeError.described v):=by
 intro v;unfold Extern.RuntimeError.described
 repeat' (first | (with_reducible exact Ok.pure) | (with_reducible exact Ok.halt trivial) | (with_reducible apply mD) | (with_reducible apply fV) | (with_reducible apply dD) | (with_reducible apply nA) | (with_reducible apply Ok.bind) | (with_reducible apply Ok.map) | intro _ | split | dsimp only)
theorem wDA:∀ i,Ok P (Extern.RuntimeError.pkgpathOf i):=by
 intro i;unfold Extern.RuntimeError.pkgpathOf
 repeat' (first | (with_reducible exact Ok.pure) | (with_reducible exact Ok.halt trivial) | (with_reducible apply dD) | (with_reducible apply Ok.bind) | (with_reducible apply Ok.map) | intro _ | split | dsimp only)
theorem dQ:∀ args,Ok P (Extern.RuntimeError.typeAssertionError args):=by
 intro args;unfold Extern.RuntimeError.typeAssertionError
 repeat' (first | (with_reducible exact Ok.pure) | (with_reducible exact Ok.halt trivial) | (with_reducible apply vS) | (with_reducible apply yT) | (with_reducible apply gX) | (with_reducible apply qN) | (with_reducible apply dB) | (with_reducible apply oW) | (with_reducible apply wDA) | (with_reducible apply zA) | (with_reducible apply Ok.bind) | (with_reducible apply Ok.map) | intro _ | split | dsimp only)
theorem oAA:∀ args,Ok P (Extern.RuntimeError.unhashableTypeError args):=by
 intro args;obtain⟨l⟩:=args;rcases l with _ | ⟨x,_ | ⟨y,t⟩⟩
 · exact nA
 · cases x <;> first | exact nA | skip
   rename_i a;obtain⟨l⟩:=a;rcases l with _ | ⟨a,_ | ⟨b,t⟩⟩
   · exact nA
   · refine Ok.bind (yT a) fun t => ?_
     cases t with
     | none=>exact(dB .nilDeref:Ok P (runtimePanic _:Sem Value))
     | some t=>exact oW _
   · exact nA
 · exact nA
theorem bI:∀ args,Ok P (Extern.RuntimeError.nothing args):=by
 intro args;unfold Extern.RuntimeError.nothing
 repeat' (first | (with_reducible exact Ok.pure) | (with_reducible exact Ok.halt trivial) | (with_reducible apply Ok.bind) | (with_reducible apply Ok.map) | intro _ | split | dsimp only)
theorem sUA : ∀ args, Ok P ((Extern.RuntimeError.rows.getD 0 ("", Extern.RuntimeError.nothing)).2 args) := by
 intro args;exact Ok.bind (qN _) fun _=>Ok.pure
theorem gXA : ∀ args, Ok P ((Extern.RuntimeError.rows.getD 1 ("", Extern.RuntimeError.nothing)).2 args) := by
 intro args;exact Ok.bind (qN _) fun _=>Ok.pure
theorem yXA : ∀ args, Ok P ((Extern.RuntimeError.rows.getD 2 ("", Extern.RuntimeError.nothing)).2 args) := by
 intro args;exact Ok.bind (wJA _) fun _=>Ok.bind (qN _) fun _=>Ok.pure
theorem kVA : ∀ args, Ok P ((Extern.RuntimeError.rows.getD 6 ("", Extern.RuntimeError.nothing)).2 args) := by
 intro args;exact oW _
theorem xZA {P : Program} (L : List Nat) (hn : P.funcs.all (fun fn => !(fn.name == "runtime.NumGoroutine")) = true) (hx : P.funcs.all (fun fn => fn.body.isSome || (Extern.findNext fn).isNone) = true)
    (hL:(List.range P.funcs.size).filter (fun f=>(P.funcs[f]?).any (fun fn=>fn.body.isNone))=L)
    (hv:∀ f∈L,∀ fn e,P.funcs[f]? = some fn→Extern.find fn=some e→∀ args,Ok P (e args)):Tame P:=by
  refine⟨fun f fn h=>?_,fun f fn e h hb he=>?_,fun f fn e h hb _ he=>hv f ?_ fn e h he⟩
  · have := Array.all_eq_true_iff_forall_mem.1 hn fn (Array.mem_of_getElem? h)
    simpa using this
  · have := Array.all_eq_true_iff_forall_mem.1 hx fn (Array.mem_of_getElem? h); rw [he] at this
    cases hc:fn.body with
    | none=>rw[hc]at this;simp at this
    | some c=>rw[hc]at hb;simp at hb
  · rw[← hL,List.mem_filter,List.mem_range];exact⟨(Array.getElem?_eq_some_iff.1 h).1,by rw[h];simpa using hb⟩
end Go.Lx
namespace Go.Lx
open Go.RowKit
theorem nW {base : Nat} {e : TypeId} {v : Value} {n g : Nat} (hg : v.ownBlock = some g) : ∀ (vs : List Value) (o : Nat) (w : World) (xs : List Value), w.ownsRow base e 1 v n xs → o + vs.length ≤ xs.length → (w.setCells g o vs).ownsRow base e 1 v n (xs.take o ++ vs ++ xs.drop (o + vs.length))
  | [], o, w, xs, h, _ => by
    rw[List.append_nil,List.length_nil,Nat.add_zero,List.take_append_drop];exact h
  | u :: r, o, w, xs, h, hl => by
    rw[List.length_cons]at hl;have h1:=nW hg r (o+1) _ _ (qQA h hg (j:=o) (by omega) u) (by rw[List.length_set];omega);have e1:(xs.set o u).take (o+1)=xs.take o++[u]:=by
     rw[List.take_succ_eq_append_getElem (by rw[List.length_set];omega),List.getElem_set_self,List.take_set_of_le (Nat.le_refl _)]
    have e2:(xs.set o u).drop (o+1+r.length)=xs.drop (o+(u::r).length):=by
     rw[List.drop_set_of_lt (by omega),List.length_cons,show o+(r.length+1)=o+1+r.length by omega]
    rw[e1,e2]at h1
    show((w.setCell ⟨g,o,none⟩ u).setCells g (o+1) r).ownsRow base e 1 v n _
    simpa using h1
theorem vR {W : World} {g : Nat} (hg : W.heap.size ≤ g) : ∀ (vs : List Value) (o : Nat) (w : World), Under W w → Under W (w.setCells g o vs)
  | [],_,_,h=>h
  | u::r,o,w,h=>vR hg r (o+1) _ (uA h hg o u)
theorem nIA (x : ByteArray) : ∀ (zs : List ByteArray) (i : Nat), Lib.idxFromS zs x i = match zs.findIdx? fun z => z.toList == x.toList with | some k => ((i + k : Nat) : Int) | none => -1
  | [],_=>rfl
  | z :: zs, i => by
    unfold Lib.idxFromS;by_cases h:z=x
    · have:(z.toList==x.toList)=true:=(Lib.bytes_beq_iff z x).2 h;rw[if_pos h,List.findIdx?_cons,this];rfl
    · have : (z.toList == x.toList) = false := (Lib.bytes_beq_false_iff z x).2 h; rw [if_neg h, List.findIdx?_cons, this, nIA x zs (i + 1)]
      cases zs.findIdx? fun z=>z.toList==x.toList with
      | none=>rfl
      | some k=>simp only[Option.map_some];congr 1;omega
theorem fKA(st:List ByteArray)(s:ByteArray):Lib.idxOfS st.reverse s=match cAA st s with | some k=>(k:Int) | none => -1:=by
 unfold Lib.idxOfS cAA;rw[nIA]
 cases st.reverse.findIdx? fun z=>z.toList==s.toList with
 | none=>rfl
 | some k=>simp
theorem nAA(zs:List ByteArray)(x:ByteArray):Lib.containsS zs x=aL zs x:=by
 rw[Bool.eq_iff_iff,Lib.containsS_iff];unfold aL;rw[List.any_eq_true];constructor
 · intro h;exact⟨x,h,by simp⟩
 · rintro⟨y,h1,h2⟩;rw[(Lib.bytes_beq_iff y x).1 h2]at h1;exact h1
end Go.Lx
namespace Go.Lx
open Go
variable {P : Program} {ops : Array Oper} {Q : Exit → Act → World → Prop} {md : Region.Mode} {S : World → Prop}
theorem jD (i : Nat) {oi : Oper} {v : Value} {fuel : Nat} {listed : Array Bool} {a : Act} {w : World} (hi : ops[i]? = some oi)
    (hb:(Region.noSelect ops&&Region.free md ops listed i&&(Region.ready md ops listed).contains i)=true)
    (hQ:∀ c a w,Q (.panic c) (a.put oi.dst v) w→Q (.panic c) a w) (hy:YieldsIf P ops S oi v a) (hS:S w)
    (h:wpAnyH P md ops Q S fuel (listed.setIfInBounds i true) (a.put oi.dst v) w):wpAnyH P md ops Q S (fuel+1) listed a w:=by
  simp only[Bool.and_eq_true]at hb;exact wpAnyH_take hi hb.1.1 hb.1.2 hb.2 hQ hy hS h
theorem bA (i : Nat) {oi : Oper} {v : Value} {fuel : Nat} {listed : Array Bool} {a : Act} {w : World} (hi : ops[i]? = some oi)
    (hb:(Region.noSelect ops&&Region.free md ops listed i&&(Region.ready md ops listed).contains i)=true) (hw:Region.wanted oi (yielded ops a.tmps)=true)
    (hQ:∀ c a w,Q (.panic c) (a.put oi.dst v) w→Q (.panic c) a w) (hS:S w) (hy:∀ w,S w→(execOp a.eval oi).run P w = .ok (.value v) w)
    (h:wpAnyH P md ops Q S fuel (listed.setIfInBounds i true) (a.put oi.dst v) w):wpAnyH P md ops Q S (fuel+1) listed a w :=
  jD i hi hb hQ (.inl ⟨hw,hy⟩) hS h
theorem gD (i : Nat) {oi : Oper} {fuel : Nat} {listed : Array Bool} {a : Act} {w : World} (hi : ops[i]? = some oi)
    (hb:(Region.noSelect ops&&Region.free md ops listed i&&(Region.ready md ops listed).contains i)=true) (hw:Region.wanted oi (yielded ops a.tmps)=false)
    (hQ:∀ c a w,Q (.panic c) (a.put oi.dst undef) w→Q (.panic c) a w) (hS:S w)
    (h:wpAnyH P md ops Q S fuel (listed.setIfInBounds i true) (a.put oi.dst undef) w):wpAnyH P md ops Q S (fuel+1) listed a w :=
  jD i hi hb hQ (.inr ⟨hw,rfl⟩) hS h
theorem iA (i : Nat) {o : Oper} {fuel : Nat} {listed : Array Bool} {a : Act} {w : World} (hr : Region.ready md ops listed = [i]) (ho : ops[i]? = some o)
    (h:∀ K':Act→World→Prop,Go.Shut (∀ a w,S w→(S w→wpAnyH P md ops Q S fuel (listed.setIfInBounds i true) a w)→K' a w)→if Region.wanted o (yielded ops a.tmps)=true then Oper.wp P o a w K' Q else K' (a.put o.dst undef) w) :
    wpAnyH P md ops Q S (fuel+1) listed a w :=
  wpAnyH_ready hr (by simp) (AllReadyH.cons ho h AllReadyH.nil)
theorem bH (i j : Nat) {o p : Oper} {fuel : Nat} {listed : Array Bool} {a : Act} {w : World} (hr : Region.ready md ops listed = [i, j]) (ho : ops[i]? = some o) (hp : ops[j]? = some p)
    (h:∀ K':Act→World→Prop,Go.Shut (∀ a w,S w→(S w→wpAnyH P md ops Q S fuel (listed.setIfInBounds i true) a w)→K' a w)→if Region.wanted o (yielded ops a.tmps)=true then Oper.wp P o a w K' Q else K' (a.put o.dst undef) w)
    (g:∀ K':Act→World→Prop,Go.Shut (∀ a w,S w→(S w→wpAnyH P md ops Q S fuel (listed.setIfInBounds j true) a w)→K' a w)→if Region.wanted p (yielded ops a.tmps)=true then Oper.wp P p a w K' Q else K' (a.put p.dst undef) w) :
    wpAnyH P md ops Q S (fuel+1) listed a w :=
  wpAnyH_ready hr (by simp) (AllReadyH.cons ho h (AllReadyH.cons hp g AllReadyH.nil))
end Go.Lx
namespace Go.Lx
def yF(x:Nd):List Nat:=if yA x then binds x else []
def fF (t : List Nd) : Nat → List Nat → List (Nat × Nat)
  | k + 1, u :: st => match t[k]? with
    | some x=>(k,u)::fF t k (((yF x).map (u + ·)).reverse++st)
    | none=>[]
  | _,_=>[]
theorem sP{t:List Nd}{k u:Nat}{st:List Nat}{x:Nd}(hx:t[k]? = some x):fF t (k+1) (u::st)=(k,u)::fF t k (((yF x).map (u + ·)).reverse++st):=by
 simp[fF,hx]
theorem qLA(k:Nat):∀ n∈gG k,n≤2:=by
 unfold gG;split<;>simp
theorem gY{x:Nd}:∀ n∈yF x,n≤2:=by
 intro n hn;unfold yF at hn
 split at hn
 · unfold binds at hn
   split at hn
   · rw[List.mem_replicate]at hn;omega
   · split at hn
     · rcases List.mem_cons.1 hn with h | h
       · omega
       · rw[List.mem_replicate]at h;omega
     · exact qLA _ n hn
 · simp at hn
theorem xCA(x:Nd):(yF x).length≤8:=by
 unfold yF
 split
 · exact gK ‹_›
 · simp
def dH(t:List Nd):List (Nat×Nat):=fF t t.length [0]
theorem wU(a b:List Nd):∀(k:Nat) (all op:List (Nat×Nat)),wC (a++b) k all op=(wC a k all op).bind fun r=>wC b (k+a.length) r.1 r.2:=by
 induction a with
 | nil=>intro k all op;simp[wC]
 | cons x a ih =>
   intro k all op;simp only[List.cons_append,wC]
   split
   · rfl
   · rw[ih,List.length_cons,show k+1+a.length=k+(a.length+1) by omega]
theorem ePA(t:List Nd):∀(k:Nat) (st:List Nat),∀ x∈fF t k st,x.1 < k:=by
 intro k
 induction k with
 | zero=>intro st x hx;cases st<;>simp[fF]at hx
 | succ k ih =>
   intro st x hx
   cases st with
   | nil=>simp[fF]at hx
   | cons u st =>
     simp only[fF]at hx
     split at hx
     · rcases List.mem_cons.1 hx with h | h
       · rw[h];exact Nat.lt_succ_self k
       · exact Nat.lt_succ_of_lt (ih _ x h)
     · simp at hx
theorem aHA:∀(t:List Nd) (k:Nat) (all op:List (Nat×Nat)) {r:List (Nat×Nat)×List (Nat×Nat)},wC t k all op=some r→∀ x∈t,yA x=true:=by
 intro t
 induction t with
 | nil=>intro k all op r h x hx;simp at hx
 | cons y t ih =>
   intro k all op r h x hx;simp only[wC]at h
   split at h
   · cases h
   · rename_i hn; rcases List.mem_cons.1 hx with e | e
     · rw [e]
       cases hr:yA y with
       | true=>rfl
       | false=>exact absurd (.inl hr) hn
     · exact ih _ _ _ h x e
theorem xZ{t:List Nd}(h:bC t=0):∀ x∈t,yA x=true:=by
 unfold bC at h
 split at h
 · cases h
 · cases hm : wC t 0 [] [] with
   | none=>rw[hm]at h;cases h
   | some r=>exact aHA t 0 [] [] hm
theorem vP{x:Nd}(h:yA x=true)(hk:x.k=0):0≤x.n∧x.n≤99:=by
 unfold yA at h;simp[hk,fN,fM,fS,bX]at h;omega
def CntIs(t:List Nd)(k c:Nat):Prop:=∃ all op,wC (t.take k) 0 [] []=some (all,op)∧op.length=c
theorem CntIs.zero(t:List Nd):CntIs t 0 0:=⟨[],[],by simp[wC],rfl⟩
theorem CntIs.pred{t:List Nd}{k c:Nat}{x:Nd}(hx:t[k]? = some x)(h:CntIs t (k+1) c):∃ c',CntIs t k c'∧yA x=true∧(binds x).length≤c'∧c=c' - (binds x).length+1:=by
 obtain⟨all,op,hm,hc⟩:=h;obtain⟨hk,hxe⟩:=List.getElem?_eq_some_iff.1 hx;rw[List.take_succ_eq_append_getElem hk,wU,hxe]at hm
 cases hr:wC (t.take k) 0 [] [] with
 | none=>rw[hr]at hm;cases hm
 | some r =>
   rw[hr]at hm;obtain⟨a0,o0⟩:=r;simp only[Option.bind_some,wC]at hm
   split at hm
   · cases hm
   · rename_i hn; have hr1 : yA x = true := by cases h : yA x with
      | true=>rfl
      | false=>exact absurd (.inl h) hn
     have hr2:¬ o0.length < (binds x).length:=fun h=>hn (.inr h)
     cases hm;refine⟨o0.length,⟨a0,o0,hr,rfl⟩,hr1,by omega,?_⟩;rw[← hc,List.length_append,List.length_take,List.length_singleton];omega
theorem CntIs.pos{t:List Nd}{k c:Nat}(hk:k < t.length)(h:CntIs t (k+1) c):1≤c:=by
 obtain⟨c',_,_,_,rfl⟩:=h.pred (List.getElem?_eq_getElem hk);omega
theorem sKA(t:List Nd):∀(k:Nat) (st:List Nat),k≤t.length→CntIs t k st.length→(fF t k st).length=k:=by
 intro k
 induction k with
 | zero=>intro st _ _;cases st<;>rfl
 | succ k ih =>
   intro st hk h;have hlt:k < t.length:=by omega
   have hx:=List.getElem?_eq_getElem hlt;have h1:=h.pos hlt
   cases st with
   | nil=>simp at h1
   | cons u st =>
     obtain⟨c',hc',hr,hb,he⟩:=h.pred hx;rw[sP hx,List.length_cons,ih _ (by omega)];rw[List.length_append,List.length_reverse,List.length_map];have:yF t[k]=binds t[k]:=by unfold yF;rw[if_pos hr]
     rw[this];have hl:(u::st).length=st.length+1:=List.length_cons ..;rw[show(binds t[k]).length+st.length=c' by omega];exact hc'
theorem qTA{t:List Nd}(h:bC t=0):(dH t).length=t.length∧t.length≤4000:=by
 unfold bC at h
 split at h
 · cases h
 · cases hm : wC t 0 [] [] with
   | none=>rw[hm]at h;cases h
   | some r =>
     rw[hm]at h;obtain⟨all,op⟩:=r;simp only at h
     split at h
     · cases h
     · rename_i ho; refine ⟨sKA t t.length [0] (Nat.le_refl _) ⟨all, op, by rw [List.take_length]; exact hm, ?_⟩, by omega⟩; have : op.length = 1 := Decidable.not_not.1 ho
       simpa using this
structure Dc where
 kind:Int
 level:Int
 name:ByteArray
 type:List Nd
 body:List Nd
 cons:List (List (List Nd))
def DcV(w:World)(v:Value)(d:Dc):Prop:=∃ vt vb vc,v = .agg #[.int .i64 d.kind,.int .i64 d.level,.string d.name,vt,vb,vc]∧TermV w vt d.type∧TermV w vb d.body∧ConsV w vc d.cons
theorem ConsV.mono:sSA ConsV:=ListV.mono (ListV.mono TermV.mono)
theorem TermsV.mono:sSA TermsV:=ListV.mono TermV.mono
theorem DcV.mono:sSA DcV:=fun w w' v d hU ⟨vt,vb,vc,h1,h2,h3,h4⟩=>⟨vt,vb,vc,h1,TermV.mono _ _ _ _ hU h2,TermV.mono _ _ _ _ hU h3,ConsV.mono _ _ _ _ hU h4⟩
def nC(d:Dc):List (List Nd):=if d.kind=1 then [d.type,d.body] else if d.kind=2 then [d.type] else if d.kind=3 then d.cons.flatten else []
structure Small (d:Dc):Prop where
 name:d.name.size≤maxLen
 cons:d.cons.length≤5864062014634
 flat:d.cons.flatten.length≤5864062015658
 terms:∀ t∈nC d,t.length≤2000000∧∀ x∈t,x.s.size≤maxLen
end Go.Lx
namespace Go.Lx
open Go.RowKit
def RowsV{α:Type}(size:Nat)(R:World→List Value→α→Prop)(w:World)(p:Option Addr)(xs:List α):Prop :=
 ∃ rows:List (List Value),RowArg w p rows.flatten∧(∀ r∈rows,r.length=size)∧Zip (R w) rows xs
def eVA{α:Type}(R:World→List Value→α→Prop):Prop:=∀ w w' cs x,Under w w'→R w cs x→R w' cs x
theorem RowsV.under{α:Type}{size:Nat}{R:World→List Value→α→Prop}(hR:eVA R){w w':World}{p:Option Addr}{xs:List α}(h:RowsV size R w p xs)(hU:Under w w'):RowsV size R w' p xs:=by
 obtain⟨rows,h1,h2,h3⟩:=h;exact⟨rows,h1.under hU,h2,h3.mono fun v x=>hR _ _ _ _ hU⟩
theorem wP{rows:List (List Value)}{size:Nat}(h:∀ r∈rows,r.length=size):rows.flatten.length=rows.length * size:=by
 induction rows with
 | nil=>simp
 | cons r l ih =>
   rw[List.flatten_cons,List.length_append,h r (List.mem_cons_self ..),ih fun x hx=>h x (List.mem_cons_of_mem _ hx),List.length_cons,Nat.add_mul,Nat.one_mul,Nat.add_comm]
theorem uP : ∀ {rows : List (List Value)} {size k j : Nat} {r : List Value} {u : Value}, (∀ r ∈ rows, r.length = size) → rows[k]? = some r → r[j]? = some u → rows.flatten[k * size + j]? = some u
  | x :: l, size, 0, j, r, u, h, hk, hj => by
    cases hk;rw[List.flatten_cons,Nat.zero_mul,Nat.zero_add,List.getElem?_append_left (List.getElem?_eq_some_iff.1 hj).1];exact hj
  | x :: l, size, k + 1, j, r, u, h, hk, hj => by
    have h0:=h x (List.mem_cons_self ..);rw[List.flatten_cons,List.getElem?_append_right (by rw[h0,Nat.add_mul];omega),h0,show(k+1) * size+j - size=k * size+j by rw[Nat.add_mul];omega];exact uP (fun x hx=>h x (List.mem_cons_of_mem _ hx)) (by simpa using hk) hj
theorem RowsV.at{α:Type}{size:Nat}{R:World→List Value→α→Prop}{w:World}{p:Option Addr}{xs:List α}(h:RowsV size R w p xs){k:Nat}{x:α}(hk:xs[k]? = some x)(hs:0 < size) :
 ∃ b off r,p=some ⟨b,off,none⟩∧b < w.heap.size∧r.length=size∧R w r x∧∀ j u,r[j]? = some u→w.cell? ⟨b,off+(k * size+j),none⟩=some u:=by
 obtain⟨rows,h1,h2,h3⟩:=h;obtain⟨r,hr,hR⟩:=h3.at hk;have hrl:=h2 r (List.mem_of_getElem? hr);have hne:rows.flatten≠[]:=by
  intro e;have:=uP (j:=0) (u:=r[0]'(by omega)) h2 hr (List.getElem?_eq_getElem (by omega));rw[e]at this;cases this
 obtain⟨b,off,e,hb,hc⟩:=h1 hne;exact⟨b,off,r,e,hb,hrl,hR,fun j u hj=>hc _ _ (uP h2 hr hj)⟩
theorem RowsV.nil{α:Type}{size:Nat}{R:World→List Value→α→Prop}{w:World}{p:Option Addr}:RowsV size R w p ([]:List α):=⟨[],RowArg.nil,fun r h=>(List.not_mem_nil h).elim,Zip.nil _⟩
theorem RowsV.of_own{α:Type}{size:Nat}{R:World→List Value→α→Prop}{w:World}{base:Nat}{e:TypeId}{v:Value}{n:Nat}{xs:List α}{rows:List (List Value)}(h:w.ownsRow base e size v n rows.flatten)(h2:∀ r∈rows,r.length=size)(h3:Zip (R w) rows xs) :
 ∃ q c,v = .slice q n c∧n≤c∧RowsV size R w q xs:=by
 obtain⟨q,c,e,hc,hr⟩:=RowArg.of_own h;exact⟨q,c,e,hc,rows,hr,h2,h3⟩
def DcRow(w:World)(cs:List Value)(d:Dc):Prop:=∃ vt vb vc,cs=[.int .i64 d.kind,.int .i64 d.level,.string d.name,vt,vb,vc]∧TermV w vt d.type∧TermV w vb d.body∧ConsV w vc d.cons
theorem DcRow.mono:eVA DcRow:=fun w w' cs d hU ⟨vt,vb,vc,h1,h2,h3,h4⟩=>⟨vt,vb,vc,h1,TermV.mono _ _ _ _ hU h2,TermV.mono _ _ _ _ hU h3,ConsV.mono _ _ _ _ hU h4⟩
theorem DcRow.val{w:World}{cs:List Value}{d:Dc}(h:DcRow w cs d):DcV w (.agg cs.toArray) d:=by
 obtain⟨vt,vb,vc,rfl,h1,h2,h3⟩:=h;exact⟨vt,vb,vc,rfl,h1,h2,h3⟩
theorem DcV.row{w:World}{v:Value}{d:Dc}(h:DcV w v d):∃ cs,v = .agg cs.toArray∧DcRow w cs d:=by
 obtain⟨vt,vb,vc,rfl,h1,h2,h3⟩:=h;exact⟨_,rfl,vt,vb,vc,rfl,h1,h2,h3⟩
def EntRow(w:World)(cs:List Value)(d:Dc):Prop:=∃ vt vb vc st q n c,cs=[.int .i64 d.kind,.int .i64 d.level,.string d.name,vt,vb,vc,.bool st,.slice q n c]∧TermV w vt d.type∧TermV w vb d.body∧ConsV w vc d.cons
theorem EntRow.mono:eVA EntRow:=fun w w' cs d hU ⟨vt,vb,vc,st,q,n,c,h1,h2,h3,h4⟩=>⟨vt,vb,vc,st,q,n,c,h1,TermV.mono _ _ _ _ hU h2,TermV.mono _ _ _ _ hU h3,ConsV.mono _ _ _ _ hU h4⟩
end Go.Lx
namespace Go.Lx
open Go.ChangeShapes Go.WideShapes Go.RowKit Go.Deep
theorem iTA{α:Type}{Q:Nat→α→Prop}(n:Nat)(h:∀ i,i < n→∃ t,Q i t):∃ l:List α,l.length=n∧∀ i t,l[i]? = some t→Q i t:=by
 induction n with
 | zero=>exact⟨[],rfl,fun i t h=>by simp at h⟩
 | succ n ih =>
   obtain⟨l,h1,h2⟩:=ih fun i hi=>h i (by omega)
   obtain⟨t,ht⟩:=h n (by omega);refine⟨l++[t],by simp[h1],fun i u hu=>?_⟩;rw[List.getElem?_append]at hu
   split at hu
   · exact h2 i u hu
   · rename_i hi; have h0 : i - l.length = 0 := by
      have:=(List.getElem?_eq_some_iff.1 hu).1;simp at this;omega
     rw[h0]at hu
     cases hu;have:i=n:=by omega
     exact this▸ht
theorem nJA{rows:List (List Value)}{size:Nat}(hs:0 < size)(h:∀ r∈rows,r.length=size){j:Nat}{u:Value}(hj:rows.flatten[j]? = some u):∃ r,rows[j / size]? = some r∧r[j % size]? = some u:=by
 have hlen:=wP h;have hjl:=(List.getElem?_eq_some_iff.1 hj).1;rw[hlen]at hjl;have hk:j / size < rows.length:=(Nat.div_lt_iff_lt_mul hs).2 hjl;have hm:j % size < size:=Nat.mod_lt _ hs;have hr:=List.getElem?_eq_getElem hk;have hrl:=h _ (List.getElem_mem hk);refine⟨rows[j / size],hr,?_⟩;have:=uP (j:=j % size) (u:=rows[j / size][j % size]'(by omega)) h hr (List.getElem?_eq_getElem (by omega));rw[Nat.div_add_mod' j size]at this;rw[this]at hj
 cases hj;exact List.getElem?_eq_getElem _
section
variable {H : Type} {enc : TypeId × Value → H} {P : Program} {w : World} {spare : Nat → Bool} {held : Bool} {t e : TypeId} {fuel : Nat} {cs : List Value} {x : DataW H × List MemPlace}
theorem ListV.of_rows{α:Type}{R:World→Value→α→Prop}{p:Option Addr}{c:Nat}{xs:List α}(h:RowsV 1 (fun w cs a=>∃ v,cs=[v]∧R w v a) w p xs)(hc:xs.length≤c)(h0:p=none→c=0):ListV R w (.slice p xs.length c) xs:=by
 obtain⟨rows,h1,h2,h3⟩:=h;have hz:∀(rows:List (List Value)) (xs:List α),Zip (fun cs a=>∃ v,cs=[v]∧R w v a) rows xs→Zip (R w) rows.flatten xs:=by
  intro rows
  induction rows with
  | nil=>intro xs hz;obtain⟨e,_⟩:=hz;cases xs with | nil=>exact Zip.nil _ | cons=>cases e
  | cons r l ih =>
    intro xs hz
    cases xs with
    | nil=>cases hz.1
    | cons y ys =>
      obtain⟨v,rfl,hv⟩:=hz.2 0 r y rfl rfl;have ht:Zip (fun cs a=>∃ v,cs=[v]∧R w v a) l ys:=⟨by have:=hz.1;simpa using this,fun i v x hv hx=>hz.2 (i+1) v x (by simpa using hv) (by simpa using hx)⟩;have:=(Zip.one hv).app (ih ys ht)
      simpa using this
 exact⟨p,c,rows.flatten,rfl,hc,h0,h1,hz rows xs h3⟩
end
end Go.Lx
