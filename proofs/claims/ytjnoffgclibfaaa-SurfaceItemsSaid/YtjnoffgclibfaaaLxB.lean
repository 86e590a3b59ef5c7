/- General texts on goroutines beside one another, part B: for any program. -/
import Derived.Test.YtjnoffgclibfaaaLxA
import Derived.Conc.Own
import Derived.RunT
import Derived.KernelRfl
set_option linter.unusedSimpArgs false
set_option linter.unusedVariables false
/- What an operation comes to: never one of the machine's rare doors. -/
namespace Go.Lx

/-- The doors that an operation may come to. -/
def NextOk : Next → Prop
  | .value _ | .skip | .enter _ _ | .round _ _ _ _ _ | .defer _ | .recover | .spawn _ | .comm _ _ _ | .coroswitch _ true => True
  | .row r _ => r = "runtime.print$piece"
  | _ => False

abbrev OkN (P : Program) (s : Sem Next) : Prop := Safe P NextOk 0 s

theorem OkN.pure {P : Program} {x : Next} (h : NextOk x) : OkN P (Pure.pure x) := ⟨rfl, h⟩
theorem OkN.value {P : Program} {s : Sem Value} (h : Ok P s) : OkN P (do Pure.pure (.value (← s))) := Ok.bind h fun _ => ⟨rfl, trivial⟩
theorem OkN.unit {P : Program} {s : Sem Unit} (h : Ok P s) : OkN P (do s; Pure.pure .skip) := Ok.bind h fun _ => ⟨rfl, trivial⟩

/-- The program's functions without a Go body are plain ones. -/
structure Tame (P : Program) : Prop where
  name : ∀ (f : FuncId) (fn : Func), P.funcs[f]? = some fn → (fn.name == "runtime.NumGoroutine") = false
  next : ∀ (f : FuncId) (fn : Func) e, P.funcs[f]? = some fn → fn.body.isNone = true → Extern.findNext fn = some e → ∀ args, OkN P (e args)
  value : ∀ (f : FuncId) (fn : Func) e, P.funcs[f]? = some fn → fn.body.isNone = true → Extern.findNext fn = none → Extern.find fn = some e → ∀ args, Ok P (e args)

variable {P : Program}

theorem ok_callFunc (T : Tame P) (f : FuncId) (args : Array Value) : OkN P (callFunc f args) := by
  unfold callFunc
  refine Safe.bind (ψ := fun p => p = P) (s := program) ⟨rfl, rfl⟩ fun p hp => ?_
  subst hp
  split
  · exact ok_stuck
  · rename_i fn hfn
    rw [if_neg (by rw [T.name f fn hfn]; simp)]
    split
    · rename_i hb
      refine Ok.bind (s := mark (.extern f)) ⟨rfl, trivial⟩ fun _ => ?_
      split
      · rename_i e he
        exact T.next f fn e hfn hb he args
      · rename_i he
        have he' : Extern.findNext fn = none := by
          cases h : Extern.findNext fn with
          | none => rfl
          | some e => exact absurd h (he e)
        split
        · rename_i e hv
          exact OkN.value (T.value f fn e hfn hb he' hv args)
        · split
          · exact ⟨rfl, trivial⟩
          · exact ok_unsupported
    · exact ⟨rfl, trivial⟩

theorem ok_callMethod (T : Tame P) (v : Value) (n : String) (args : Array Value) : OkN P (callMethod v n args) := by
  unfold callMethod
  split
  · exact Ok.bind ok_program fun _ => Ok.bind (ok_method _ _ _ _) fun x => ok_callFunc T _ _
  · exact ok_runtimePanic _
  · exact ok_stuck

/-! ### print -/
theorem ok_piece (a b : Array TypeId) (args : Array Value) : OkN P (Extern.PrintPieces.piece a b args) := by
  unfold Extern.PrintPieces.piece
  split
  · rename_i fst _
    split
    · rename_i p _
      by_cases hp : p.size > 65536
      · simp only [if_pos hp]
        exact ⟨trivial, .inl rfl⟩
      · simp only [if_neg hp]
        cases hl : (args.size == 2) <;> cases fst <;> simp only [Bool.not_true, Bool.not_false, Bool.false_eq_true, if_true, if_false]
        · exact Ok.bind ok_writeFd fun _ => ⟨rfl, rfl⟩
        · refine fun v => ?_
          cases v with
          | bool b =>
            cases b with
            | false => exact ⟨Nat.one_pos, (show Safe P NextOk 0 (writeFd 2 p >>= fun _ => _) from Ok.bind ok_writeFd fun _ => ⟨rfl, rfl⟩)⟩
            | true => exact ⟨trivial, .inr trivial⟩
          | _ => exact ⟨trivial, .inr trivial⟩
        · exact Ok.bind ok_writeFd fun _ => ⟨Nat.one_pos, rfl, trivial⟩
        · refine fun v => ?_
          cases v with
          | bool b =>
            cases b with
            | false => exact ⟨Nat.one_pos, (show Safe P NextOk 0 (writeFd 2 p >>= fun _ => _) from Ok.bind ok_writeFd fun _ => ⟨rfl, trivial⟩)⟩
            | true => exact ⟨trivial, .inr trivial⟩
          | _ => exact ⟨trivial, .inr trivial⟩
    · exact ok_stuck
  · exact ok_stuck

theorem ok_printMarked (a1 : Bool) (a2 : Array Bool) (a3 : Array TypeId) (a4 : Array Value) : OkN P (Builtin.printMarked a1 a2 a3 a4) := by
  unfold Builtin.printMarked
  refine Ok.bind (ok_Builtin_pieces _ _ _ _) fun ps => ?_
  split
  · exact ⟨rfl, trivial⟩
  · exact ok_piece _ _ _

theorem ok_builtin (b : Builtin) (a2 : Array TypeId) (a3 : TypeId) (a4 : Array Bool) (a5 : Array Value) : OkN P (builtin b a2 a3 a4 a5) := by
  cases b <;> first
    | exact OkN.value (ok_Builtin_append_ _ _ _)
    | exact OkN.value (ok_Builtin_cap_ _ _ _)
    | exact OkN.value (ok_Builtin_clear_ _ _ _)
    | exact OkN.value (ok_Builtin_close_ _ _ _)
    | exact OkN.value (ok_Builtin_complex_ _ _ _)
    | exact OkN.value (ok_Builtin_copy_ _ _ _)
    | exact OkN.value (ok_Builtin_delete_ _ _ _)
    | exact OkN.value (ok_Builtin_imag_ _ _ _)
    | exact OkN.value (ok_Builtin_len_ _ _ _)
    | exact OkN.value (ok_Builtin_max_ _ _ _)
    | exact OkN.value (ok_Builtin_min_ _ _ _)
    | exact OkN.value (ok_Instr_panic _)
    | exact OkN.value (ok_Builtin_real_ _ _ _)
    | exact OkN.value (ok_Builtin_unsafeAdd_ _ _ _)
    | exact OkN.value (ok_Builtin_unsafeSlice_ _ _ _)
    | exact OkN.value (ok_Builtin_unsafeSliceData_ _ _ _)
    | exact OkN.value (ok_Builtin_unsafeString_ _ _ _)
    | exact OkN.value (ok_Builtin_unsafeStringData_ _ _ _)
    | exact ok_printMarked _ _ _ _
    | exact ⟨rfl, trivial⟩
    | exact ok_stuck
    | exact ok_unsupported
    | exact Ok.bind (ok_typeInfo _) fun _ => ⟨rfl, trivial⟩

theorem ok_yield (l : Nat) (args : Array Value) : OkN P (Instr.yield l args) := by
  unfold Instr.yield
  repeat' (first | (with_reducible apply ok_Instr_getLoop) | (with_reducible apply ok_stuck) | (with_reducible apply ok_setObj) | (with_reducible apply ok_runtimePanic) | (with_reducible apply Ok.bind) | exact OkN.pure trivial | intro _ | split | dsimp only)

theorem ok_invoke (T : Tame P) (t : Target) (args : Array Value) : OkN P (invoke t args) := by
  unfold invoke
  split
  · exact ok_runtimePanic _
  · exact ok_builtin _ _ _ _ _
  · exact ok_callFunc T _ _
  · split
    · exact ok_callMethod T _ _ _
    · exact ok_stuck
  · split
    · exact Ok.bind (ok_underlying _) fun _ => ok_callMethod T _ _ _
    · exact ok_stuck
  · split
    · exact Ok.bind (ok_receiverVia _ _ _ _) fun _ => ok_callFunc T _ _
    · exact ok_stuck
  · exact ok_yield _ _
  · exact ok_stuck
  · exact ⟨rfl, trivial⟩

theorem ok_resolve (ρ : Operand → Value) (c : Call) (t : TypeId) : Ok P (resolve ρ c t) := by
  unfold resolve
  dsimp only
  split
  · exact Ok.pure
  · exact Ok.pure
  · exact ok_Deferred_ofValue _ _

theorem ok_execOp (T : Tame P) (ρ : Operand → Value) (o : Oper) : OkN P (execOp ρ o) := by
  unfold execOp
  dsimp only
  split
  · exact ⟨rfl, trivial⟩
  · exact ⟨rfl, trivial⟩
  · exact Ok.bind (ok_asBool _) fun _ => ⟨rfl, trivial⟩
  · exact OkN.value (ok_Instr_alloc _ _ _)
  · exact OkN.value (ok_Instr_box _ _)
  · exact OkN.value (ok_Instr_build _ _)
  · exact OkN.value (ok_Instr_buildSlice _ _ _)
  · exact OkN.value (ok_Instr_loadAt _ _)
  · exact OkN.unit (ok_Instr_storeAt _ _ _)
  · exact OkN.unit (ok_Instr_ready _)
  · exact OkN.value (ok_Instr_waits _)
  · split
    · exact ok_runtimePanic _
    · exact ok_runtimePanic _
    · exact ok_runtimePanic _
    · split
      · exact ok_runtimePanic _
      · refine Ok.bind ok_program fun _ => Ok.bind (ok_nilAhead _ _ _ _) fun r => ?_
        split
        · exact Ok.bind ok_unsupported fun _ => ⟨rfl, trivial⟩
        · exact ⟨rfl, trivial⟩
      · exact ⟨rfl, trivial⟩
    · exact ⟨rfl, trivial⟩
  · exact OkN.value (Ok.bind (ok_eqGuard _ _ _ _ _ _) fun _ => ok_binOp _ _ _ _)
  · exact OkN.value (ok_Op_unary _ _)
  · exact OkN.value (ok_convert _ _ _)
  · exact OkN.value (ok_Instr_arrayAt _ _)
  · exact OkN.value (ok_Instr_makeInterface _ _)
  · exact OkN.value (ok_Instr_makeFunc _ _ _)
  · exact OkN.value (ok_Instr_makeMap _ _)
  · exact OkN.value (ok_Instr_makeChan _ _)
  · exact OkN.value (ok_Instr_makeSlice _ _ _)
  · exact OkN.value (ok_Instr_sliceAt _ _ _ _ _)
  · exact OkN.value (ok_Instr_fieldAt _ _ _)
  · exact OkN.value (ok_Instr_field _ _ _)
  · exact OkN.value (ok_Instr_indexAt _ _ _)
  · exact OkN.value (ok_Instr_index _ _ _)
  · exact OkN.value (ok_Instr_lookup _ _ _ _)
  · exact OkN.unit (ok_Instr_mapUpdate _ _ _ _)
  · exact OkN.unit (ok_Instr_mapUpdate _ _ _ _)
  · exact OkN.value (ok_Instr_mapEntry _ _ _)
  · exact OkN.unit (ok_Instr_entryStore _ _ _ _)
  · exact OkN.value (ok_Instr_range _ _)
  · exact OkN.value (ok_Instr_next _ _ _)
  · exact OkN.value (ok_Instr_entry _)
  · exact OkN.value (ok_Instr_typeAssert _ _ _ _)
  · exact OkN.value (ok_Instr_extract _ _)
  · exact Ok.bind (ok_resolve _ _ _) fun _ => ok_invoke T _ _
  · exact Ok.bind (ok_resolve _ _ _) fun _ => ⟨rfl, trivial⟩
  · exact Ok.bind (ok_resolve _ _ _) fun _ => ⟨rfl, trivial⟩
  · exact OkN.value (ok_Instr_panic _)
  · exact ⟨rfl, trivial⟩
  · refine Ok.bind (ok_underlying _) fun _ => ?_
    split
    · exact Ok.bind (ok_zeroValue _) fun _ => ⟨rfl, trivial⟩
    · exact ok_stuck
  · exact Ok.bind (ok_mapA fun _ => Ok.bind (ok_zeroValue _) fun _ => Ok.pure) fun _ => ⟨rfl, trivial⟩
end Go.Lx

/- What the trace keeps of the listed accesses counts as they do, for deafness. -/
namespace Go.Lx

def MS (e : Event) : Prop := ∀ m, e.loc = .mark m → e.sync = true

theorem ms_push {es : Array Event} {e : Event} (h : ∀ x ∈ es, MS x) (he : MS e) : ∀ x ∈ es.push e, MS x := by
  intro x hx
  rcases Array.mem_push.1 hx with hx | rfl
  · exact h x hx
  · exact he
theorem ms_app {es u : Array Event} (h : ∀ x ∈ es, MS x) (he : ∀ x ∈ u, MS x) : ∀ x ∈ es ++ u, MS x := fun x hx => (Array.mem_append.1 hx).elim (h x) (he x)

theorem runT_ms {P : Program} {α : Type} (s : Sem α) : ∀ (w : World) (es : Array Event), (∀ x ∈ es, MS x) → ∀ x ∈ (s.runT P w es).2, MS x := by
  induction s with
  | pure a => exact fun w es h => h
  | halt h => exact fun w es h => h
  | load m a k ih =>
    intro w es h
    simp only [Sem.runT]
    split
    · exact ih _ _ _ (ms_push h (by intro m hm; cases hm))
    · split
      · exact ih _ _ _ (ms_app h (by intro e he m hm; simp at he; obtain ⟨_, _, rfl⟩ := he; cases hm))
      · exact h
  | store m a v k ih =>
    intro w es h
    by_cases hv : (∃ x, v = .agg x) ∨ ∃ x, v = .tuple x
    · rcases hv with ⟨x, rfl⟩ | ⟨x, rfl⟩ <;> exact h
    · have e0 : ∀ (w : World), (Sem.store m a v k).runT P w es = match w.cell? a with
          | some _ =>
            if w.frozen? a then (.halt (.unsupported (.unsafePointer "a write to bytes that a string shares")) w, es)
            else k.runT P (w.setCell a v) (es.push ⟨.cell a, true, m == .atomic⟩)
          | none => match w.farStore P a v (m == .atomic) with
            | .ok (w, touched) => k.runT P w (es ++ touched.toArray.map (⟨.cell ·, true, m == .atomic⟩))
            | .error h => (.halt h w, es) := by
        intro w
        cases v <;> first | rfl | exact absurd (.inl ⟨_, rfl⟩) hv | exact absurd (.inr ⟨_, rfl⟩) hv
      rw [e0]
      split
      · split
        · exact h
        · exact ih _ _ (ms_push h (by intro m hm; cases hm))
      · split
        · exact ih _ _ (ms_app h (by intro e he m hm; simp at he; obtain ⟨_, _, rfl⟩ := he; cases hm))
        · exact h
  | new o k ih => exact fun w es h => ih _ _ _ h
  | shape r k ih => exact fun w es h => ih _ _ _ h
  | freeze a n k ih => exact fun w es h => ih _ _ h
  | frozen a k ih => exact fun w es h => ih _ _ _ h
  | getObj r k ih =>
    intro w es h
    simp only [Sem.runT]
    split
    · exact h
    · exact ih _ _ _ (ms_push h (by intro m hm; cases hm))
    · exact h
  | setObj r o k ih =>
    intro w es h
    simp only [Sem.runT]
    split
    · exact h
    · exact ih _ _ (ms_push h (by intro m hm; cases hm))
    · exact h
  | choose q k ih =>
    intro w es h
    simp only [Sem.runT]
    split
    · exact ih _ _ _ h
    · exact ih _ _ _ h
  | sys c k ih => exact fun w es h => ih _ _ _ (ms_push h (by intro m hm; cases hm))
  | program k ih => exact fun w es h => ih _ _ _ h
  | mark m k ih => exact fun w es h => ih _ _ (ms_push h (by intro m hm; rfl))

theorem seen_bal (P : Program) (fn : FuncId) {es : Array Event} (h : ∀ x ∈ es, MS x) (d : Nat) : deafBehind d (seen P fn es) = deafBehind d es := by
  obtain ⟨l⟩ := es
  have key : ∀ (l : List Event) (q : Bool) (kept : Array Event), (∀ x ∈ l, MS x) →
      deafBehind d (l.foldl (fun (x : Bool × Array Event) e => match e.loc with
        | .mark (.extern f) => ((P.funcs[f]?).any (·.norace), x.2)
        | _ => (x.1, if x.1 && !e.sync then x.2 else x.2.push e)) (q, kept)).2 = deafBehind d (kept ++ l.toArray) := by
    intro l
    induction l with
    | nil => intro q kept _; simp
    | cons e l ih =>
      intro q kept h
      have hl := fun x hx => h x (List.mem_cons_of_mem _ hx)
      have he := h e (by simp)
      have e1 : kept ++ (e :: l).toArray = (kept ++ #[e]) ++ l.toArray := by
        apply Array.ext'; simp
      simp only [List.foldl_cons]
      split
      · rename_i f hf
        rw [ih _ _ hl, e1, deafBehind_app, deafBehind_app, deafBehind_app]
        congr 1
        rw [deafBehind_eq, deafBehind_eq]
        simp [dStep, hf]
      · split
        · rename_i hq
          rw [ih _ _ hl, e1, deafBehind_app, deafBehind_app, deafBehind_app]
          congr 1
          have hns : e.sync = false := by
            cases hs : e.sync with
            | false => rfl
            | true => simp [hs] at hq
          rw [deafBehind_plain (es := #[e]) (by
            intro x hx m hm
            simp at hx
            subst hx
            rw [he m hm] at hns
            cases hns)]
        · rw [ih _ _ hl, e1, push_app]
  have := key l ((P.funcs[fn]?).any (·.norace)) #[] (fun x hx => h x (by simpa using hx))
  unfold seen
  dsimp only
  rw [← Array.foldl_toList]
  rw [Array.empty_append] at this
  exact this

theorem ms_empty : ∀ x ∈ (#[] : Array Event), MS x := by simp
end Go.Lx

/- A goroutine's own step: what it comes to, and that it is a window of the tape. -/
namespace Go.Lx

def gw : GStep → World
  | .go _ w _ | .comm _ _ _ _ w _ | .spawn _ _ w _ | .count _ w _ | .timer _ _ w _ | .alone _ _ w _ | .newcoro _ _ _ w _ | .coroswitch _ _ _ w _ | .collect _ w _ | .watch _ w _ | .ended _ w _ => w
def gre (s : GStep) (τ : Nat → Question → Nat) (d : Nat) : GStep := match s with
  | .go g w es => .go g (re w τ d) es
  | .comm g a b c w es => .comm g a b c (re w τ d) es
  | .spawn g a w es => .spawn g a (re w τ d) es
  | .count g w es => .count g (re w τ d) es
  | .timer g a w es => .timer g a (re w τ d) es
  | .alone g a w es => .alone g a (re w τ d) es
  | .newcoro g a b w es => .newcoro g a b (re w τ d) es
  | .coroswitch g a b w es => .coroswitch g a b (re w τ d) es
  | .collect g w es => .collect g (re w τ d) es
  | .watch g w es => .watch g (re w τ d) es
  | .ended o w es => .ended o (re w τ d) es
def done : GStep → Prop
  | .ended _ _ _ => True
  | _ => False

def ItemOk : Item → Prop
  | .call _ _ _ _ => False
  | .extern row _ => row = "runtime.print$piece"
  | _ => True
def FrOk (fr : Frame) : Prop := ∀ i ∈ fr.todo, ItemOk i
def StOk (g : Goroutine) : Prop := g.status = .running ∨ g.status = .blocked ∨ g.status = .waiting ∨ g.status = .finished
structure GOk (g : Goroutine) : Prop where
  top : FrOk g.frame
  below : ∀ fr ∈ g.callers, FrOk fr
  st : StOk g := by simp [StOk]

def SOk : GStep → Prop
  | .go g _ es => GOk g ∧ Bal 0 es
  | .comm g _ _ _ _ es => GOk g ∧ Bal 0 es
  | .spawn _ _ _ _ => True
  | .coroswitch g _ true _ es => GOk g ∧ Bal 0 es
  | .ended _ _ _ => True
  | _ => False

def Win (F : World → GStep) (w : World) : Prop :=
  ∃ c, (gw (F w)).drawn = w.drawn + c ∧ (gw (F w)).tape = w.tape ∧ ∀ τ d, Agree w.tape w.drawn τ d c → F (re w τ d) = gre (F w) τ (d + c)
def Good (F : World → GStep) (w : World) : Prop := done (F w) ∨ (SOk (F w) ∧ Win F w)

theorem bal0 : Bal 0 #[] := fun _ => rfl
theorem Bal.app {a b : Array Event} (ha : Bal 0 a) (hb : Bal 0 b) : Bal 0 (a ++ b) := fun x => by rw [deafBehind_app]; rw [ha x]; exact hb x

theorem done_after {es : Array Event} {s : GStep} (h : done s) : done (GStep.after es s) := by cases s <;> first | exact h | cases h
theorem sok_after {es : Array Event} {s : GStep} (he : Bal 0 es) (h : SOk s) : SOk (GStep.after es s) := by
  cases s with
  | go g w e => exact ⟨h.1, he.app h.2⟩
  | comm g a b c w e => exact ⟨h.1, he.app h.2⟩
  | spawn => trivial
  | coroswitch g c x w e => cases x with | true => exact ⟨h.1, he.app h.2⟩ | false => cases h
  | ended => trivial
  | _ => cases h
theorem gw_after (es : Array Event) (s : GStep) : gw (GStep.after es s) = gw s := by cases s <;> rfl
theorem gre_after (es : Array Event) (s : GStep) (τ : Nat → Question → Nat) (d : Nat) : gre (GStep.after es s) τ d = GStep.after es (gre s τ d) := by cases s <;> rfl

theorem good_ended {o : World → Outcome} {f : World → World} {es : World → Array Event} {w : World} : Good (fun v => .ended (o v) (f v) (es v)) w := .inl trivial
theorem good_go {g : Goroutine} {es : Array Event} (hg : GOk g) (hb : Bal 0 es) {w : World} : Good (fun v => .go g v es) w := .inr ⟨⟨hg, hb⟩, 0, rfl, rfl, fun _ _ _ => rfl⟩

theorem frOk_finish {fr : Frame} (h : FrOk fr) (v : Value) : FrOk (fr.finish v) := by
  obtain ⟨fn, tmps, todo, defers, mode, kind, ro⟩ := fr
  cases todo with
  | nil => exact h
  | cons i k =>
    have hk : ∀ j ∈ k, ItemOk j := fun j hj => h j (List.mem_cons_of_mem _ hj)
    cases i with
    | inRegion ops l =>
      cases l with
      | nil => exact h
      | cons a l =>
        intro j hj
        simp only [Frame.finish] at hj
        rcases List.mem_cons.1 hj with rfl | hj
        · trivial
        · exact hk j hj
    | inRangeFunc l =>
      intro j hj
      simp only [Frame.finish] at hj
      rcases List.mem_cons.1 hj with rfl | hj
      · trivial
      · exact hk j hj
    | beginRound => exact hk
    | call d b r s => exact absurd (h (.call d b r s) List.mem_cons_self) id
    | extern r a => exact hk
    | _ => exact h
theorem frOk_raise {fr : Frame} (h : FrOk fr) (vs : List PanicEntry) : FrOk (fr.raise vs) := by
  unfold Frame.raise; split <;> exact h
theorem frOk_enter (P : Program) (f : FuncId) (args : Array Value) (k : CallKind) : FrOk (Frame.enter P f args k) := by
  intro i hi
  simp only [Frame.enter, List.mem_singleton] at hi
  subst hi; trivial
theorem frOk_round (l : Nat) (f : FuncId) (t : Array Value) (a b : Code) (k : CallKind) : FrOk (Frame.round l f t a b k) := by
  intro i hi
  simp only [Frame.round, List.mem_cons, List.not_mem_nil, or_false] at hi
  rcases hi with rfl | rfl | rfl <;> trivial
theorem frOk_row (P : Program) (args : Array Value) (k : CallKind) : FrOk (Frame.ofRow P "runtime.print$piece" args k) := by
  intro i hi
  simp only [Frame.ofRow, List.mem_singleton] at hi
  subst hi; rfl
theorem frOk_defers {fr : Frame} (h : FrOk fr) (ds : List Deferred) : FrOk { fr with defers := ds } := h
theorem frOk_mode {fr : Frame} (h : FrOk fr) (m : FrameMode) : FrOk { fr with mode := m } := h

theorem frs_cons {fr : Frame} {cs : List Frame} (h : FrOk fr) (hc : ∀ f ∈ cs, FrOk f) : ∀ f ∈ fr :: cs, FrOk f := fun f hf => by
  rcases List.mem_cons.1 hf with rfl | hf
  · exact h
  · exact hc f hf

theorem tryRecover_ok : ∀ (cs : List Frame) (fr : Frame) {v : Value} {cs' : List Frame}, (∀ f ∈ cs, FrOk f) → tryRecover fr cs = some (v, cs') → ∀ f ∈ cs', FrOk f := by
  intro cs
  induction cs with
  | nil => intro fr v cs' _ h; unfold tryRecover at h; split at h <;> first | cases h | simp_all
  | cons c cs ih =>
    intro fr v cs' hc h
    unfold tryRecover at h
    split at h
    · rename_i caller rest _ heq
      cases heq
      split at h
      · cases h
        exact frs_cons (frOk_mode (hc _ (by simp)) _) fun f hf => hc f (List.mem_cons_of_mem _ hf)
      · cases h
    · rename_i wrapper rest _ heq
      cases heq
      obtain ⟨x, hx, hy⟩ := Option.map_eq_some_iff.1 h
      cases hy
      exact frs_cons (hc _ (by simp)) (ih _ (fun f hf => hc f (List.mem_cons_of_mem _ hf)) hx)
    · cases h
theorem tryRecoverLoop_ok : ∀ (cs : List Frame) (l : Nat) {v : Value} {cs' : List Frame}, (∀ f ∈ cs, FrOk f) → tryRecoverLoop l cs = some (v, cs') → ∀ f ∈ cs', FrOk f := by
  intro cs
  induction cs with
  | nil => intro l v cs' _ h; cases h
  | cons c cs ih =>
    intro l v cs' hc h
    have hcs := fun f hf => hc f (List.mem_cons_of_mem _ hf)
    unfold tryRecoverLoop at h
    obtain ⟨x, hx, hy⟩ := Option.map_eq_some_iff.1 h
    cases hy
    refine frs_cons (hc _ (by simp)) ?_
    split at hx
    · exact ih _ hcs hx
    · split at hx
      · exact tryRecover_ok _ _ hcs hx
      · exact ih _ hcs hx
    · exact ih _ hcs hx

variable {P : Program}

/-- What a safe piece of semantics comes to, in this world and on every tape with the same window. -/
theorem run_data {α : Type} {φ : α → Prop} {s : Sem α} (hs : Safe P φ 0 s) (w : World) :
    ∃ r es, s.runT P w #[] = (r, es) ∧ (∀ x ∈ es, MS x) ∧ BalR φ 0 es r ∧
      (Refused r ∨ ∃ c, (wOf r).drawn = w.drawn + c ∧ (wOf r).tape = w.tape ∧ ∀ τ d, Agree w.tape w.drawn τ d c → s.runT P (re w τ d) #[] = (reR r τ (d + c), es)) := by
  refine ⟨(s.runT P w #[]).1, (s.runT P w #[]).2, rfl, runT_ms s w #[] ms_empty, ?_, runT_nat s 0 hs w #[]⟩
  obtain ⟨new, h1, h2⟩ := runT_bal s 0 hs w #[]
  rw [Array.empty_append] at h1
  rw [h1]; exact h2

def withW {α : Type} (r : Result α) (v : World) : Result α := match r with | .ok a _ => .ok a v | .halt h _ => .halt h v
theorem withW_self {α : Type} (r : Result α) : withW r (wOf r) = r := by cases r <;> rfl
theorem reR_eq {α : Type} (r : Result α) (τ : Nat → Question → Nat) (d : Nat) : reR r τ d = withW r (re (wOf r) τ d) := by cases r <;> rfl
/-- .. for a step that is 'run it, and go on by what came'. -/
theorem good_of {α : Type} {φ : α → Prop} {s : Sem α} (hs : Safe P φ 0 s) {F : World → GStep} {K : Result α → Array Event → GStep} (hF : ∀ w, F w = K (s.runT P w #[]).1 (s.runT P w #[]).2)
    (hdead : ∀ h v es, dead h → done (K (.halt h v) es))
    (hok : ∀ a es, (∀ x ∈ es, MS x) → φ a → Bal 0 es → ∀ w, Good (fun v => K (.ok a v) es) w)
    (hhalt : ∀ h es, (∀ x ∈ es, MS x) → calm h → (hushed h ∨ Bal 0 es) → ∀ w, Good (fun v => K (.halt h v) es) w) (w : World) : Good F w := by
  obtain ⟨r, es, hr, hms, hb, hn⟩ := run_data hs w
  rcases hn with ⟨h, w', hd, rfl⟩ | ⟨c, h1, h2, h3⟩
  · left
    rw [hF, hr]
    exact hdead h w' es hd
  · have hG : Good (fun v => K (withW r v) es) (wOf r) := by
      cases r with
      | ok a w' => exact hok a es hms hb.1 hb.2 w'
      | halt h w' => exact hhalt h es hms hb.1 hb.2 w'
    have e0 : F w = K (withW r (wOf r)) es := by rw [hF, hr, withW_self]
    rcases hG with hG | ⟨hS, c', g1, g2, g3⟩
    · left; rw [e0]; exact hG
    · right
      refine ⟨by rw [e0]; exact hS, c + c', ?_, ?_, fun τ d ha => ?_⟩
      · rw [e0]; exact g1.trans (by rw [h1]; omega)
      · rw [e0]; exact g2.trans h2
      · rw [hF, h3 τ d ha.left, e0, reR_eq]
        have := g3 τ (d + c) (by rw [h1, h2]; exact ha.right)
        rw [Nat.add_assoc] at this
        exact this

theorem good_after {es : Array Event} {F : World → GStep} {w : World} (hb : ¬ done (F w) → Bal 0 es) (h : Good F w) : Good (fun v => GStep.after es (F v)) w := by
  rcases h with h | ⟨hS, c, h1, h2, h3⟩
  · exact .inl (done_after h)
  · by_cases hd : done (F w)
    · exact .inl (done_after hd)
    · exact .inr ⟨sok_after (hb hd) hS, c, by rw [gw_after]; exact h1, by rw [gw_after]; exact h2, fun τ d ha => by show GStep.after es (F (re w τ d)) = _; rw [h3 τ d ha, gre_after]⟩

/-! ### the steps -/


theorem found_re (w : World) (τ : Nat → Question → Nat) (d : Nat) : ∀ (n : Nat) (f : FuncId), P.found (re w τ d) n f = P.found w n f := by
  intro n
  induction n with
  | zero => intro f; rfl
  | succ n ih =>
    intro f
    have hsh : (re w τ d).shape? = w.shape? := rfl
    have hhp : (re w τ d).heap = w.heap := rfl
    simp only [Program.found, ih, hsh, hhp]
theorem brought_re (w : World) (τ : Nat → Question → Nat) (d : Nat) : ∀ (n : Nat) (l seen : List FuncId), P.brought (re w τ d) n l seen = P.brought w n l seen := by
  intro n
  induction n with
  | zero => intro l seen; rfl
  | succ n ih =>
    intro l seen
    have hsh : (re w τ d).shape? = w.shape? := rfl
    have hhp : (re w τ d).heap = w.heap := rfl
    cases l with
    | nil => rfl
    | cons f l => simp only [Program.brought, ih, hhp]
end Go.Lx

/- A goroutine's own step, case by case. -/
namespace Go.Lx
variable {P : Program}

theorem re_self (w : World) : re w w.tape w.drawn = w := rfl

/-- A step that draws nothing: it is enough to hold it against itself. -/
theorem good_still {F : World → GStep} {w : World} (hs : done (F w) ∨ SOk (F w)) (hd : ∀ τ d, F (re w τ d) = gre (F w) τ d) : Good F w := by
  have h0 : gw (F w) = re (gw (F w)) w.tape w.drawn := by
    have e := hd w.tape w.drawn
    rw [re_self] at e
    have : gw (F w) = gw (gre (F w) w.tape w.drawn) := congrArg gw e
    rw [this]
    cases F w <;> rfl
  rcases hs with h | h
  · exact .inl h
  · exact .inr ⟨h, 0, by rw [h0]; rfl, by rw [h0]; rfl, fun τ d _ => by rw [hd]; rfl⟩

theorem good_win {F : World → GStep} {w : World} (c : Nat) (hs : done (F w) ∨ SOk (F w)) (hd : ∀ τ d, Agree w.tape w.drawn τ d c → F (re w τ d) = gre (F w) τ (d + c)) : Good F w := by
  have h0 : gw (F w) = re (gw (F w)) w.tape (w.drawn + c) := by
    have e := hd w.tape w.drawn (fun _ _ _ => rfl)
    rw [re_self] at e
    have : gw (F w) = gw (gre (F w) w.tape (w.drawn + c)) := congrArg gw e
    rw [this]
    cases F w <;> rfl
  rcases hs with h | h
  · exact .inl h
  · exact .inr ⟨h, c, by rw [h0]; rfl, by rw [h0]; rfl, hd⟩

theorem choose_run {q : Question} (hq : q.forced = false) (w : World) : (choose q).run P w = .ok (q.cut (w.tape w.drawn q)) (re w w.tape (w.drawn + 1)) := by
  simp only [choose, Sem.run, hq, Bool.false_eq_true, if_false]; rfl
theorem choose_run_re {q : Question} (hq : q.forced = false) {w : World} {τ : Nat → Question → Nat} {d c : Nat} (ha : Agree w.tape w.drawn τ d (1 + c)) :
    (choose q).run P (re w τ d) = .ok (q.cut (w.tape w.drawn q)) (re w τ (d + 1)) := by
  rw [choose_run hq]
  show Result.ok (q.cut (τ d q)) _ = _
  rw [ha.head q]; rfl

theorem good_early {fr : Frame} {cs : List Frame} {dy : Option Dying} {g : Nat} (hf : FrOk fr) (hc : ∀ f ∈ cs, FrOk f) (w : World) : Good (fun w => early P fr cs dy g w) w := by
  have hgo : GOk { frame := fr, callers := cs, status := .running, dying := dy } := ⟨hf, hc, (by simp [StOk])⟩
  have hth : ∀ (f : FuncId) (l : List FuncId), GOk { frame := Frame.enter P f #[] .early, callers := l.map (Frame.enter P · #[] .early) ++ fr :: cs, status := .running, dying := dy } := by
    intro f l
    refine ⟨frOk_enter _ _ _ _, fun x hx => ?_, (by simp [StOk])⟩
    rcases List.mem_append.1 hx with hx | hx
    · obtain ⟨y, _, rfl⟩ := List.mem_map.1 hx
      exact frOk_enter _ _ _ _
    · exact frs_cons hf hc x hx
  have hsh : ∀ τ d, (re w τ d).shape? = w.shape? := fun _ _ => rfl
  have hhp : ∀ τ d, (re w τ d).heap = w.heap := fun _ _ => rfl
  have all : done (early P fr cs dy g w) ∨ SOk (early P fr cs dy g w) := by
    unfold early
    dsimp only
    repeat' (first | exact .inl trivial | exact .inr ⟨hgo, bal0⟩ | exact .inr ⟨hth _ _, bal0⟩ | split)
  by_cases hdraw : ∃ f, P.follows .staticDataAhead = true ∧ P.stepOf g = some f ∧ (P.code? f).any P.atRunTime = false ∧ (((P.code? f).bind fun c => (readies c).getLast?).bind w.shape?).isSome = false ∧
      P.found w P.funcs.size f = .either ∧ (fr.kind == .early) = false ∧ (P.code? f).any P.plainData = false ∧ (P.code? f).any P.bareCopy = true
  · obtain ⟨f, h1, h2, h3, h4, h5, h6, h7, h8⟩ := hdraw
    refine good_win 1 all fun τ d ha => ?_
    have r1 := choose_run (P := P) (q := .early g) rfl w
    have r2 := choose_run_re (P := P) (q := .early g) rfl (w := w) (τ := τ) (d := d) (c := 0) (by simpa using ha)
    have h5' : P.found (re w τ d) P.funcs.size f = .either := by rw [found_re]; exact h5
    simp only [early, h1, h2, h3, hsh, h4, h5, h5', h6, h7, h8, Bool.not_true, Bool.false_eq_true, if_false, r1, r2]
    cases Question.cut (.early g) (w.tape w.drawn (.early g)) with
    | zero =>
      have e1 : (re w τ (d + 1)).heap = w.heap := rfl
      have e2 : (re w w.tape (w.drawn + 1)).heap = w.heap := rfl
      simp only [e1, e2]
      cases w.heap[g]? with
      | none => rfl
      | some o => cases o <;> rfl
    | succ n => rfl
  · refine good_still all fun τ d => ?_
    cases h1 : P.follows .staticDataAhead with
    | false =>
      simp only [early, h1, hhp, Bool.not_false, if_true]
      cases w.heap[g]? with
      | none => rfl
      | some o => cases o <;> rfl
    | true =>
      cases h2 : P.stepOf g with
      | none => simp only [early, h1, h2, Bool.not_true, Bool.false_eq_true, if_false]; rfl
      | some f =>
        cases h3 : (P.code? f).any P.atRunTime with
        | true =>
          simp only [early, h1, h2, h3, hhp, Bool.not_true, Bool.false_eq_true, if_false, if_true]
          cases w.heap[g]? with
          | none => rfl
          | some o => cases o <;> rfl
        | false =>
          cases h4 : (((P.code? f).bind fun c => (readies c).getLast?).bind w.shape?).isSome with
          | true =>
            simp only [early, h1, h2, h3, hsh, h4, hhp, Bool.not_true, Bool.false_eq_true, if_false, if_true]
            cases w.heap[g]? with
            | none => rfl
            | some o => cases o <;> rfl
          | false =>
            have h5' : P.found (re w τ d) P.funcs.size f = P.found w P.funcs.size f := found_re _ _ _ _ _
            cases h6 : (fr.kind == .early) with
            | true =>
              cases h5 : P.found w P.funcs.size f <;>
                simp only [early, h1, h2, h3, hsh, h4, h5', h5, h6, brought_re, Bool.not_true, Bool.false_eq_true, if_false] <;> rfl
            | false =>
              cases h5 : P.found w P.funcs.size f with
              | unknown => simp only [early, h1, h2, h3, hsh, h4, h5', h5, h6, Bool.not_true, Bool.false_eq_true, if_false]; rfl
              | notYet =>
                simp only [early, h1, h2, h3, hsh, h4, h5', h5, h6, hhp, Bool.not_true, Bool.false_eq_true, if_false]
                cases w.heap[g]? with
                | none => rfl
                | some o => cases o <;> rfl
              | either =>
                cases h7 : (P.code? f).any P.plainData with
                | true => simp only [early, h1, h2, h3, hsh, h4, h5', h5, h6, h7, brought_re, Bool.not_true, Bool.false_eq_true, if_false, if_true]; rfl
                | false =>
                  cases h8 : (P.code? f).any P.bareCopy with
                  | true => exact absurd ⟨f, h1, h2, h3, h4, h5, h6, h7, h8⟩ hdraw
                  | false =>
                    simp only [early, h1, h2, h3, hsh, h4, h5', h5, h6, h7, h8, hhp, Bool.not_true, Bool.not_false, Bool.false_eq_true, if_false, if_true]
                    cases w.heap[g]? with
                    | none => rfl
                    | some o => cases o <;> rfl
end Go.Lx

/- A goroutine's own step: an operation that is carried out. -/
namespace Go.Lx
variable {P : Program}

theorem good_then {F A : World → GStep} {w w' : World} {c : Nat} (h1 : w'.drawn = w.drawn + c) (h2 : w'.tape = w.tape) (e : F w = A w')
    (e' : ∀ τ d, Agree w.tape w.drawn τ d c → F (re w τ d) = A (re w' τ (d + c))) (hA : Good A w') : Good F w := by
  rcases hA with hA | ⟨hS, c', g1, g2, g3⟩
  · left; rw [e]; exact hA
  · right
    refine ⟨by rw [e]; exact hS, c + c', by rw [e, g1, h1]; omega, by rw [e, g2, h2], fun τ d ha => ?_⟩
    rw [e' τ d ha.left, e, g3 τ (d + c) (by rw [h1, h2]; exact ha.right), Nat.add_assoc]

/-- The entries that 'apply' keeps. -/
theorem kept_bal {fn : FuncId} {k : CallKind} {es : Array Event} (hms : ∀ x ∈ es, MS x) (hb : Bal 0 es) : Bal 0 (seen P fn (if k == .early then #[] else es)) := by
  intro x
  split
  · rw [seen_bal P fn ms_empty]; rfl
  · rw [seen_bal P fn hms]; exact hb x

theorem done_endThrow {fr : Frame} {m : String} {v : World} (hf : FrOk fr) : SOk (endThrow fr m v) := ⟨⟨hf, by simp, (by simp [StOk])⟩, bal0⟩
theorem good_endThrow {fr : Frame} {m : String} {w : World} (hf : FrOk fr) : Good (fun v => endThrow fr m v) w := good_go ⟨hf, by simp, (by simp [StOk])⟩ bal0

theorem good_apply {fr : Frame} {cs : List Frame} {dy : Option Dying} {s : Sem Next} (hf : FrOk fr) (hc : ∀ f ∈ cs, FrOk f) (hs : OkN P s) (w : World) : Good (fun w => stepG.apply P true fr cs dy s w) w := by
  obtain ⟨r, es, hr, hms, hb, hn⟩ := run_data hs w
  rcases hn with ⟨h, w', hd, rfl⟩ | ⟨c, h1, h2, h3⟩
  · left
    cases h with
    | stuck x => simp only [stepG.apply, if_true, hr]; exact done_after trivial
    | unsupported u =>
      cases u with
      | noEntry x => simp only [stepG.apply, if_true, hr]; exact done_after trivial
      | _ => cases hd
    | _ => cases hd
  · cases r with
    | ok a w' =>
      have q1 : w'.drawn = w.drawn + c := h1
      have q2 : w'.tape = w.tape := h2
      have hbal := kept_bal (P := P) (fn := fr.fn) (k := fr.kind) hms hb.2
      have hN := hb.1
      cases a with
      | value v =>
        refine good_then (w' := w') q1 q2 (by simp only [stepG.apply, if_true, hr]; rfl) (fun τ d ha => by simp only [stepG.apply, if_true, h3 τ d ha]; rfl) ?_
        exact good_after (fun _ => hbal) (good_go ⟨frOk_finish hf _, hc, (by simp [StOk])⟩ bal0)
      | skip =>
        refine good_then (w' := w') q1 q2 (by simp only [stepG.apply, if_true, hr]; rfl) (fun τ d ha => by simp only [stepG.apply, if_true, h3 τ d ha]; rfl) ?_
        exact good_after (fun _ => hbal) (good_go ⟨frOk_finish hf _, hc, (by simp [StOk])⟩ bal0)
      | enter f args =>
        refine good_then (w' := w') q1 q2 (by simp only [stepG.apply, if_true, hr]; rfl) (fun τ d ha => by simp only [stepG.apply, if_true, h3 τ d ha]; rfl) ?_
        exact good_after (fun _ => hbal) (good_go ⟨frOk_enter _ _ _ _, frs_cons hf hc, (by simp [StOk])⟩ bal0)
      | round l f t a b =>
        refine good_then (w' := w') q1 q2 (by simp only [stepG.apply, if_true, hr]; rfl) (fun τ d ha => by simp only [stepG.apply, if_true, h3 τ d ha]; rfl) ?_
        exact good_after (fun _ => hbal) (good_go ⟨frOk_round _ _ _ _ _ _, frs_cons hf hc, (by simp [StOk])⟩ bal0)
      | «defer» d =>
        refine good_then (w' := w') q1 q2 (by simp only [stepG.apply, if_true, hr]; rfl) (fun τ d ha => by simp only [stepG.apply, if_true, h3 τ d ha]; rfl) ?_
        exact good_after (fun _ => hbal) (good_go ⟨frOk_finish (frOk_defers hf _) _, hc, (by simp [StOk])⟩ bal0)
      | recover =>
        refine good_then (w' := w') q1 q2 (by simp only [stepG.apply, if_true, hr]; rfl) (fun τ d ha => by simp only [stepG.apply, if_true, h3 τ d ha]; rfl) ?_
        refine good_after (fun _ => hbal) ?_
        have hnone : Good (fun v => GStep.go { frame := fr.finish .nilIface, callers := cs, status := .running, dying := dy } v) w' := good_go ⟨frOk_finish hf _, hc, (by simp [StOk])⟩ bal0
        split
        · rename_i v cs' heq
          refine good_go ⟨frOk_finish hf _, ?_, (by simp [StOk])⟩ bal0
          split at heq
          · split at heq
            · exact tryRecover_ok _ _ hc heq
            · exact tryRecoverLoop_ok _ _ hc heq
          · exact tryRecover_ok _ _ hc heq
        · exact hnone
      | spawn d =>
        refine good_then (w' := w') q1 q2 (by simp only [stepG.apply, if_true, hr]; rfl) (fun τ d ha => by simp only [stepG.apply, if_true, h3 τ d ha]; rfl) ?_
        refine good_after (fun _ => hbal) ?_
        split <;> (split <;> first | exact good_endThrow hf | exact .inr ⟨trivial, 0, rfl, rfl, fun _ _ _ => rfl⟩)
      | comm a b sh =>
        refine good_then (w' := w') q1 q2 (by simp only [stepG.apply, if_true, hr]; rfl) (fun τ d ha => by simp only [stepG.apply, if_true, h3 τ d ha]; rfl) ?_
        exact good_after (fun _ => hbal) (.inr ⟨⟨⟨hf, hc, (by simp [StOk])⟩, bal0⟩, 0, rfl, rfl, fun _ _ _ => rfl⟩)
      | coroswitch cc x =>
        cases x with
        | false => exact absurd hN id
        | true =>
          refine good_then (w' := w') q1 q2 (by simp only [stepG.apply, if_true, hr]; rfl) (fun τ d ha => by simp only [stepG.apply, if_true, h3 τ d ha]; rfl) ?_
          exact good_after (fun _ => hbal) (.inr ⟨⟨⟨hf, hc, (by simp [StOk])⟩, bal0⟩, 0, rfl, rfl, fun _ _ _ => rfl⟩)
      | row row args =>
        obtain rfl : row = "runtime.print$piece" := hN
        refine good_then (w' := w') q1 q2 (by simp only [stepG.apply, if_true, hr]; rfl) (fun τ d ha => by simp only [stepG.apply, if_true, h3 τ d ha]; rfl) ?_
        refine good_after (fun _ => hbal) ?_
        split
        · rename_i k heq
          refine good_go ⟨?_, hc, (by simp [StOk])⟩ bal0
          intro i hi
          rcases List.mem_cons.1 hi with rfl | hi
          · rfl
          · exact hf i (by rw [heq]; exact List.mem_cons_of_mem _ hi)
        · exact good_go ⟨frOk_row _ _ _, frs_cons hf hc, (by simp [StOk])⟩ bal0
      | _ => exact absurd hN id
    | halt h w' =>
      have q1 : w'.drawn = w.drawn + c := h1
      have q2 : w'.tape = w.tape := h2
      have hbal : ¬ hushed h → Bal 0 (seen P fr.fn (if fr.kind == .early then #[] else es)) := fun hh => kept_bal hms (hb.2.resolve_left hh)
      have hb0 : Bal 0 (seen P fr.fn (if fr.kind == .early then #[] else #[])) := kept_bal ms_empty bal0
      cases h with
      | panic v =>
        refine good_then (w' := w') q1 q2 (by simp only [stepG.apply, if_true, hr]; rfl) (fun τ d ha => by simp only [stepG.apply, if_true, h3 τ d ha]; rfl) ?_
        exact good_after (fun _ => hbal id) (good_go ⟨frOk_raise hf _, hc, (by simp [StOk])⟩ bal0)
      | goexit =>
        refine good_then (w' := w') q1 q2 (by simp only [stepG.apply, if_true, hr]; rfl) (fun τ d ha => by simp only [stepG.apply, if_true, h3 τ d ha]; rfl) ?_
        exact good_after (fun _ => hbal id) (good_go ⟨frOk_raise hf _, hc, (by simp [StOk])⟩ bal0)
      | blocked =>
        refine good_then (w' := w') q1 q2 (by simp only [stepG.apply, if_true, hr]; rfl) (fun τ d ha => by simp only [stepG.apply, if_true, h3 τ d ha]; rfl) ?_
        exact good_after (fun _ => hb0) (good_go ⟨hf, hc, (by simp [StOk])⟩ bal0)
      | waiting =>
        refine good_then (w' := w') q1 q2 (by simp only [stepG.apply, if_true, hr]; rfl) (fun τ d ha => by simp only [stepG.apply, if_true, h3 τ d ha]; rfl) ?_
        exact good_after (fun _ => hb0) (good_go ⟨hf, hc, (by simp [StOk])⟩ bal0)
      | exit x => left; simp only [stepG.apply, if_true, hr]; exact done_after trivial
      | fatal m => exact absurd hb.1 id
      | throw m =>
        refine good_then (w' := w') q1 q2 (by simp only [stepG.apply, if_true, hr]; rfl) (fun τ d ha => by simp only [stepG.apply, if_true, h3 τ d ha]; rfl) ?_
        exact good_after (fun _ => hbal id) (good_endThrow hf)
      | stuck x => left; simp only [stepG.apply, if_true, hr]; exact done_after trivial
      | unsupported u =>
        cases u with
        | initOrder g =>
          refine good_then (w' := w') q1 q2 (by simp only [stepG.apply, if_true, hr]; rfl) (fun τ d ha => by simp only [stepG.apply, if_true, h3 τ d ha]; rfl) ?_
          exact good_after (fun _ => hb0) (good_early hf hc w')
        | _ => left; simp only [stepG.apply, if_true, hr]; exact done_after trivial

/-! ### leaving -/
theorem good_doReturn {main : Bool} {fr : Frame} {cs : List Frame} {dy : Option Dying} {v : Value} (hf : FrOk fr) (hc : ∀ f ∈ cs, FrOk f) (w : World) : Good (fun w => doReturn P main fr cs dy v w) w := by
  refine good_still ?_ fun τ d => ?_
  · unfold doReturn
    cases cs with
    | nil =>
      dsimp only
      split
      · exact .inr ⟨⟨hf, by simp, (by simp [StOk])⟩, bal0⟩
      · exact .inl trivial
      · split
        · exact .inr ⟨⟨hf, by simp, (by simp [StOk])⟩, bal0⟩
        · split
          · exact .inr ⟨⟨frOk_enter _ _ _ _, by simp, (by simp [StOk])⟩, bal0⟩
          · exact .inl trivial
    | cons c cs =>
      have h1 := hc c (by simp)
      have h2 := fun f hf => hc f (List.mem_cons_of_mem c hf)
      dsimp only
      split
      · exact .inr ⟨⟨frOk_finish h1 _, h2, (by simp [StOk])⟩, bal0⟩
      · exact .inr ⟨⟨frOk_finish h1 _, h2, (by simp [StOk])⟩, bal0⟩
      · exact .inr ⟨⟨h1, h2, (by simp [StOk])⟩, bal0⟩
      · refine .inr ⟨⟨?_, h2, (by simp [StOk])⟩, bal0⟩
        dsimp only
        split
        · split
          · exact h1
          · exact h1
        · exact h1
  · unfold doReturn
    cases cs with
    | nil =>
      dsimp only
      split
      · rfl
      · rfl
      · split
        · rfl
        · split <;> rfl
    | cons c cs =>
      dsimp only
      split <;> rfl
end Go.Lx

/- A goroutine's own step: leaving, dying, and the whole. -/
namespace Go.Lx
variable {P : Program}

theorem listed_bal {fn : FuncId} {es : Array Event} (hms : ∀ x ∈ es, MS x) (hb : Bal 0 es) : Bal 0 (seen P fn es) := fun x => by rw [seen_bal P fn hms]; exact hb x

theorem good_ite {c : Prop} [Decidable c] {A B : World → GStep} {w : World} (hA : Good A w) (hB : Good B w) : Good (fun v => if c then A v else B v) w := by
  by_cases h : c
  · simp only [if_pos h]; exact hA
  · simp only [if_neg h]; exact hB

theorem good_callDeferred (T : Tame P) {fr : Frame} {cs : List Frame} {dy : Option Dying} {dd : Deferred} (hf : FrOk fr) (hc : ∀ f ∈ cs, FrOk f) (w : World) : Good (fun w => callDeferred P fr cs dy dd w) w := by
  unfold callDeferred
  refine good_ite (.inl trivial) ?_
  · obtain ⟨r, es, hr, hms, hb, hn⟩ := run_data (ok_invoke T dd.target dd.args) w
    rcases hn with ⟨h, w', hd, rfl⟩ | ⟨c, h1, h2, h3⟩
    · left
      cases h with
      | stuck x => simp only [hr]; exact done_after trivial
      | unsupported u =>
        cases u with
        | noEntry x => simp only [hr]; exact done_after trivial
        | _ => cases hd
      | _ => cases hd
    · cases r with
      | ok a w' =>
        have q1 : w'.drawn = w.drawn + c := h1
        have q2 : w'.tape = w.tape := h2
        have hbal := listed_bal (P := P) (fn := fr.fn) hms hb.2
        have hN := hb.1
        have hcs := frs_cons hf hc
        have go : Good (fun v => GStep.go { frame := fr, callers := cs, status := .running, dying := dy } v) w' := good_go ⟨hf, hc, (by simp [StOk])⟩ bal0
        cases a with
        | enter f args =>
          refine good_then (w' := w') q1 q2 (by simp only [hr]; rfl) (fun τ d ha => by simp only [h3 τ d ha]; rfl) ?_
          exact good_after (fun _ => hbal) (good_go ⟨frOk_enter _ _ _ _, hcs, (by simp [StOk])⟩ bal0)
        | round l f t a b =>
          refine good_then (w' := w') q1 q2 (by simp only [hr]; rfl) (fun τ d ha => by simp only [h3 τ d ha]; rfl) ?_
          exact good_after (fun _ => hbal) (good_go ⟨frOk_round _ _ _ _ _ _, hcs, (by simp [StOk])⟩ bal0)
        | row row args =>
          obtain rfl : row = "runtime.print$piece" := hN
          refine good_then (w' := w') q1 q2 (by simp only [hr]; rfl) (fun τ d ha => by simp only [h3 τ d ha]; rfl) ?_
          exact good_after (fun _ => hbal) (good_go ⟨frOk_row _ _ _, hcs, (by simp [StOk])⟩ bal0)
        | recover =>
          refine good_then (w' := w') q1 q2 (by simp only [hr]; rfl) (fun τ d ha => by simp only [h3 τ d ha]; rfl) ?_
          refine good_after (fun _ => hbal) ?_
          split
          · rename_i heq
            exact good_go ⟨hf, tryRecover_ok _ _ hc heq, (by simp [StOk])⟩ bal0
          · exact go
        | coroswitch cc x =>
          cases x with
          | false => exact absurd hN id
          | true =>
            refine good_then (w' := w') q1 q2 (by simp only [hr]; rfl) (fun τ d ha => by simp only [h3 τ d ha]; rfl) ?_
            exact good_after (fun _ => hbal) (.inr ⟨⟨⟨hf, hc, (by simp [StOk])⟩, bal0⟩, 0, rfl, rfl, fun _ _ _ => rfl⟩)
        | value v =>
          refine good_then (w' := w') q1 q2 (by simp only [hr]; rfl) (fun τ d ha => by simp only [h3 τ d ha]; rfl) ?_
          exact good_after (fun _ => hbal) go
        | skip =>
          refine good_then (w' := w') q1 q2 (by simp only [hr]; rfl) (fun τ d ha => by simp only [h3 τ d ha]; rfl) ?_
          exact good_after (fun _ => hbal) go
        | «defer» d =>
          refine good_then (w' := w') q1 q2 (by simp only [hr]; rfl) (fun τ d ha => by simp only [h3 τ d ha]; rfl) ?_
          exact good_after (fun _ => hbal) go
        | spawn d =>
          refine good_then (w' := w') q1 q2 (by simp only [hr]; rfl) (fun τ d ha => by simp only [h3 τ d ha]; rfl) ?_
          exact good_after (fun _ => hbal) go
        | comm a b sh =>
          refine good_then (w' := w') q1 q2 (by simp only [hr]; rfl) (fun τ d ha => by simp only [h3 τ d ha]; rfl) ?_
          exact good_after (fun _ => hbal) go
        | _ => exact absurd hN id
      | halt h w' =>
        have q1 : w'.drawn = w.drawn + c := h1
        have q2 : w'.tape = w.tape := h2
        have hbal : ¬ hushed h → Bal 0 (seen P fr.fn es) := fun hh => listed_bal hms (hb.2.resolve_left hh)
        have hb0 : Bal 0 (seen P fr.fn #[]) := listed_bal ms_empty bal0
        cases h with
        | panic v =>
          refine good_then (w' := w') q1 q2 (by simp only [hr]; rfl) (fun τ d ha => by simp only [h3 τ d ha]; rfl) ?_
          exact good_after (fun _ => hbal id) (good_go ⟨frOk_raise hf _, hc, (by simp [StOk])⟩ bal0)
        | goexit =>
          refine good_then (w' := w') q1 q2 (by simp only [hr]; rfl) (fun τ d ha => by simp only [h3 τ d ha]; rfl) ?_
          exact good_after (fun _ => hbal id) (good_go ⟨frOk_raise hf _, hc, (by simp [StOk])⟩ bal0)
        | blocked =>
          refine good_then (w' := w') q1 q2 (by simp only [hr]; rfl) (fun τ d ha => by simp only [h3 τ d ha]; rfl) ?_
          exact good_after (fun _ => hb0) (good_go ⟨frOk_defers hf _, hc, (by simp [StOk])⟩ bal0)
        | waiting =>
          refine good_then (w' := w') q1 q2 (by simp only [hr]; rfl) (fun τ d ha => by simp only [h3 τ d ha]; rfl) ?_
          exact good_after (fun _ => hb0) (good_go ⟨frOk_defers hf _, hc, (by simp [StOk])⟩ bal0)
        | throw m =>
          refine good_then (w' := w') q1 q2 (by simp only [hr]; rfl) (fun τ d ha => by simp only [h3 τ d ha]; rfl) ?_
          exact good_after (fun _ => hbal id) (good_endThrow hf)
        | fatal m => exact absurd hb.1 id
        | exit x => left; simp only [hr]; exact done_after trivial
        | stuck x => left; simp only [hr]; exact done_after trivial
        | unsupported u => left; simp only [hr]; exact done_after trivial
end Go.Lx

/- A goroutine's own step: unwinding. -/
namespace Go.Lx
variable {P : Program}

theorem run_data1 {α : Type} {φ : α → Prop} {s : Sem α} (hs : Safe P φ 0 s) (w : World) :
    Refused (s.run P w) ∨ ∃ c, (wOf (s.run P w)).drawn = w.drawn + c ∧ (wOf (s.run P w)).tape = w.tape ∧ ∀ τ d, Agree w.tape w.drawn τ d c → s.run P (re w τ d) = reR (s.run P w) τ (d + c) := by
  obtain ⟨r, es, hr, _, _, hn⟩ := run_data hs w
  have e : s.run P w = r := by rw [← Sem.runT_fst P s w #[], hr]
  rw [e]
  rcases hn with h | ⟨c, h1, h2, h3⟩
  · exact .inl h
  · exact .inr ⟨c, h1, h2, fun τ d ha => by rw [← Sem.runT_fst P s (re w τ d) #[], h3 τ d ha]⟩

theorem good_endPrinting {fr : Frame} {v : Value} (hf : FrOk fr) (w : World) : Good (fun w => endPrinting P fr v w) w := by
  unfold endPrinting
  dsimp only
  split
  · exact good_endThrow hf
  · exact .inl trivial

theorem good_unwind (T : Tame P) {main : Bool} {fr : Frame} {cs : List Frame} {dy : Option Dying} (hf : FrOk fr) (hc : ∀ f ∈ cs, FrOk f) (w : World) : Good (fun w => unwind P main fr cs dy w) w := by
  obtain ⟨fn, tmps, todo, defers, mode, kind, ro⟩ := fr
  cases defers with
  | cons d ds =>
    obtain ⟨t, args⟩ := d
    by_cases ht : ∃ b, t = .collected b
    · obtain ⟨b, rfl⟩ := ht
      obtain ⟨r, es, hr, hms, hb, hn⟩ := run_data (φ := fun _ => True) (ok_Instr_takeDeferred (P := P) b) w
      rcases hn with ⟨h, w', hd, rfl⟩ | ⟨c, h1, h2, h3⟩
      · left
        simp only [unwind, hr]; exact done_after trivial
      · cases r with
        | ok a w' =>
          refine good_then (w' := w') (c := c) h1 h2 (by simp only [unwind, hr]; rfl) (fun τ d ha => by simp only [unwind, h3 τ d ha]; rfl) ?_
          exact good_after (fun _ => listed_bal hms hb.2) (good_go ⟨hf, hc, (by simp [StOk])⟩ bal0)
        | halt h w' => left; simp only [unwind, hr]; exact done_after trivial
    · have e : ∀ v, unwind P main ⟨fn, tmps, todo, ⟨t, args⟩ :: ds, mode, kind, ro⟩ cs dy v = callDeferred P ⟨fn, tmps, todo, ds, mode, kind, ro⟩ cs dy ⟨t, args⟩ v := by
        intro v
        cases t <;> first | rfl | exact absurd ⟨_, rfl⟩ ht
      simp only [e]
      exact good_callDeferred T (fr := ⟨fn, tmps, todo, ds, mode, kind, ro⟩) (show FrOk ⟨fn, tmps, todo, ds, mode, kind, ro⟩ from hf) hc w
  | nil =>
    cases mode with
    | run => exact .inl trivial
    | panicking chain =>
      simp only [unwind]
      refine good_ite (.inl trivial) ?_
      cases cs with
      | cons c cs => exact good_go ⟨frOk_raise (hc c (by simp)) _, fun f hf => hc f (List.mem_cons_of_mem _ hf), (by simp [StOk])⟩ bal0
      | nil =>
        cases dy with
        | none =>
          simp only
          refine good_ite (good_go ⟨hf, by simp, (by simp [StOk])⟩ bal0) ?_
          rcases run_data1 (φ := fun _ => True) (ok_reportChain (P := P) chain false) w with ⟨h, w', hd, hr⟩ | ⟨c, h1, h2, h3⟩
          · left
            simp only [hr]
            cases h with
            | stuck x => trivial
            | unsupported u => trivial
            | _ => cases hd
          · cases hr : (reportChain chain false).run P w with
            | ok a w' =>
              rw [hr] at h1 h2
              refine good_then (w' := w') (c := c) h1 h2 (by simp only [hr]; rfl) (fun τ d ha => by simp only [h3 τ d ha, hr]; rfl) ?_
              exact good_go ⟨hf, by simp, (by simp [StOk])⟩ bal0
            | halt h w' =>
              left
              simp only [hr]
              cases h <;> trivial
        | some dd =>
          simp only
          split
          · exact good_endPrinting hf w
          · exact .inl trivial
    | returning =>
      simp only [unwind]
      cases hfn : P.funcs[fn]? with
      | none => exact good_doReturn hf hc w
      | some fnn =>
        simp only
        obtain ⟨r, es, hr, hms, hb, hn⟩ := run_data (φ := fun _ => True) (ok_results (P := P) fnn tmps) w
        rcases hn with ⟨h, w', hd, rfl⟩ | ⟨c, h1, h2, h3⟩
        · left
          simp only [hr]
          refine done_after ?_
          cases h <;> first | trivial | cases hd
        · cases r with
          | ok a w' =>
            refine good_then (w' := w') (c := c) h1 h2 (by simp only [hr]; rfl) (fun τ d ha => by simp only [h3 τ d ha]; rfl) ?_
            exact good_after (fun _ => listed_bal hms hb.2) (good_doReturn hf hc w')
          | halt h w' =>
            left
            simp only [hr]
            refine done_after ?_
            cases h <;> trivial
end Go.Lx

/- A goroutine's own step: dying. -/
namespace Go.Lx
variable {P : Program}

theorem from_eq {α : Type} {φ : α → Prop} {s : Sem α} {w : World} {x : Result α × Array Event} (hx : s.runT P w #[] = x) (hs : Safe P φ 0 s) :
    (∀ e ∈ x.2, MS e) ∧ BalR φ 0 x.2 x.1 ∧ (Refused x.1 ∨ ∃ c, (wOf x.1).drawn = w.drawn + c ∧ (wOf x.1).tape = w.tape ∧ ∀ τ d, Agree w.tape w.drawn τ d c → s.runT P (re w τ d) #[] = (reR x.1 τ (d + c), x.2)) := by
  obtain ⟨r, es, hr, hms, hb, hn⟩ := run_data hs w
  rw [hx] at hr
  subst hr
  exact ⟨hms, hb, hn⟩

theorem good_of_eq {F : World → GStep} {w : World} (hs : done (F w) ∨ SOk (F w)) (hw : done (F w) ∨ ∃ c, ∀ τ d, Agree w.tape w.drawn τ d c → F (re w τ d) = gre (F w) τ (d + c)) : Good F w := by
  rcases hw with h | ⟨c, h⟩
  · exact .inl h
  · exact good_win c hs h

theorem ok_held' : Ok P Extern.PrintPieces.held := Ok.bind ok_program fun _ => Ok.bind ok_load fun v => by
  cases v <;> first | exact Ok.pure | exact ok_stuck

section
variable {β : Type} {φ : β → Prop} {d : Nat}
theorem s_dis {f : Unit → Sem β} (h : Safe P φ (d + 1) (f ())) : Safe P φ d (mark .disable >>= f) := h
theorem s_ena {f : Unit → Sem β} (h : Safe P φ d (f ())) : Safe P φ (d + 1) (mark .enable >>= f) := ⟨Nat.succ_pos d, h⟩
theorem s_prog {f : Program → Sem β} (h : Safe P φ d (f P)) : Safe P φ d (program >>= f) := h
theorem s_store {a : Addr} {v : Value} {m : Mode} {f : Unit → Sem β} (h : Safe P φ d (f ())) : Safe P φ d (store a v m >>= f) := h
theorem s_block {f : Unit → Sem β} : Safe P φ d ((Sem.halt .blocked : Sem Unit) >>= f) := ⟨trivial, .inr trivial⟩
theorem s_uns {x : String} {f : Unit → Sem β} : Safe P φ d ((unsupported (.noEntry x) : Sem Unit) >>= f) := ⟨trivial, .inr trivial⟩
theorem s_sys {c : Sys} {f : SysRet → Sem β} (h0 : ∃ x, f .wouldBlock = .halt (.unsupported (.noEntry x))) (h : ∀ r, Safe P φ d (f r)) : Safe P φ d (sys c >>= f) :=
  ⟨let ⟨x, hx⟩ := h0; ⟨.unsupported (.noEntry x), trivial, hx⟩, h⟩
theorem s_held {f : Bool → Sem β} (h : ∀ b, Safe P φ d (f b)) : Safe P φ d (Extern.PrintPieces.held >>= f) := by
  show ∀ v, Safe P φ d (Sem.bind _ f)
  intro v
  cases v <;> first | exact h _ | exact ⟨trivial, .inr trivial⟩
end

theorem good_writeOn {fr : Frame} {dd : Dying} {f : Fatal} (hf : FrOk fr) (w : World) : Good (fun w => writeOn P fr dd f w) w := by
  cases hp : f.pieces with
  | nil => left; simp only [writeOn, hp]; trivial
  | cons piece rest =>
    refine good_of_eq ?_ ?_
    · simp only [writeOn, hp]
      generalize hx : Sem.runT P _ w #[] = x
      have D := from_eq (φ := fun _ => True) hx (by
        repeat' (first | (with_reducible exact Ok.pure) | (with_reducible exact ok_unsupported) | (with_reducible exact s_block) | (with_reducible exact s_uns) | (with_reducible refine s_dis ?_) | (with_reducible refine s_held ?_) | (with_reducible refine s_prog ?_) | (with_reducible refine s_store ?_) | (with_reducible refine s_ena ?_) | (with_reducible refine s_sys ?_ ?_) | exact ⟨_, rfl⟩ | intro _ | split))
      obtain ⟨hms, hb, _⟩ := D
      obtain ⟨r, es⟩ := x
      cases r with
      | ok a w' => exact .inr ⟨⟨hf, by simp, (by simp [StOk])⟩, hb.2⟩
      | halt h w' => cases h <;> first | exact .inl trivial | exact .inr ⟨⟨hf, by simp, (by simp [StOk])⟩, bal0⟩
    · simp only [writeOn, hp]
      generalize hx : Sem.runT P _ w #[] = x
      have D := from_eq (φ := fun _ => True) hx (by
        repeat' (first | (with_reducible exact Ok.pure) | (with_reducible exact ok_unsupported) | (with_reducible exact s_block) | (with_reducible exact s_uns) | (with_reducible refine s_dis ?_) | (with_reducible refine s_held ?_) | (with_reducible refine s_prog ?_) | (with_reducible refine s_store ?_) | (with_reducible refine s_ena ?_) | (with_reducible refine s_sys ?_ ?_) | exact ⟨_, rfl⟩ | intro _ | split))
      obtain ⟨_, _, hn⟩ := D
      rcases hn with ⟨h, w', hd, hr⟩ | ⟨c, h1, h2, h3⟩
      · left
        obtain ⟨r, es⟩ := x
        simp only at hr
        subst hr
        cases h <;> first | trivial | cases hd
      · right
        refine ⟨c, fun τ d ha => ?_⟩
        rw [h3 τ d ha]
        obtain ⟨r, es⟩ := x
        cases r with
        | ok a w' => rfl
        | halt h w' => cases h <;> rfl

theorem done_endWith (w : World) (fd : Nat) (t : ByteArray) (o : Outcome) : done (endWith w fd t o) := by
  unfold endWith
  repeat' (first | trivial | split)

theorem good_die (T : Tame P) {fr : Frame} {dd : Dying} (hf : FrOk fr) (w : World) : Good (fun w => die P fr dd w) w := by
  cases hfat : dd.fatal with
  | some f => simp only [die, hfat]; exact good_writeOn hf w
  | none =>
    cases ht : dd.todo with
    | nil =>
      simp only [die, hfat, ht]
      cases hp : printLockHeld P w with
      | true =>
        have hp' : ∀ τ d, printLockHeld P (re w τ d) = true := fun _ _ => hp
        refine good_still ?_ fun τ d => ?_
        · simp only [hp, if_true]; exact .inr ⟨⟨hf, by simp, (by simp [StOk])⟩, bal0⟩
        · simp only [hp, hp', if_true]; rfl
      | false =>
        left
        simp only [hp, Bool.false_eq_true, if_false]
        exact done_endWith _ _ _ _
    | cons x rest =>
      obtain ⟨v, mk⟩ := x
      simp only [die, hfat, ht]
      cases hpt : panicText P false v with
      | text s => exact good_go ⟨hf, by simp, (by simp [StOk])⟩ bal0
      | no u => exact .inl trivial
      | address s =>
        simp only
        rcases run_data1 (φ := fun _ => True) (ok_withAddress (P := P) s) w with ⟨h, w', hd, hr⟩ | ⟨c, h1, h2, h3⟩
        · left; simp only [hr]; trivial
        · cases hr : (withAddress s).run P w with
          | ok a w' =>
            rw [hr] at h1 h2
            refine good_then (w' := w') (c := c) h1 h2 (by simp only [hr]; rfl) (fun τ d ha => by simp only [h3 τ d ha, hr]; rfl) ?_
            exact good_go ⟨hf, by simp, (by simp [StOk])⟩ bal0
          | halt h w' => left; simp only [hr]; trivial
      | call t recv name =>
        simp only
        obtain ⟨r, es, hr, hms, hb, hn⟩ := run_data (ok_invoke T (.fn (.method name) #[]) #[.iface t recv]) w
        rcases hn with ⟨h, w', hd, rfl⟩ | ⟨c, h1, h2, h3⟩
        · left
          simp only [hr]
          refine done_after ?_
          cases h <;> first | trivial | cases hd
        · cases r with
          | ok a w' =>
            cases a with
            | enter f args =>
              refine good_then (w' := w') (c := c) h1 h2 (by simp only [hr]; rfl) (fun τ d ha => by simp only [h3 τ d ha]; rfl) ?_
              exact good_after (fun _ => listed_bal hms hb.2) (good_go ⟨frOk_enter _ _ _ _, by simp, (by simp [StOk])⟩ bal0)
            | value v =>
              cases v with
              | string s =>
                refine good_then (w' := w') (c := c) h1 h2 (by simp only [hr]; rfl) (fun τ d ha => by simp only [h3 τ d ha]; rfl) ?_
                exact good_after (fun _ => listed_bal hms hb.2) (good_go ⟨hf, by simp, (by simp [StOk])⟩ bal0)
              | _ => left; simp only [hr]; exact done_after trivial
            | _ => left; simp only [hr]; exact done_after trivial
          | halt h w' =>
            cases h with
            | panic v =>
              refine good_then (w' := w') (c := c) h1 h2 (by simp only [hr]; rfl) (fun τ d ha => by simp only [h3 τ d ha]; rfl) ?_
              exact good_after (fun _ => listed_bal hms (hb.2.resolve_left id)) (good_endPrinting hf w')
            | _ => left; simp only [hr]; exact done_after trivial
end Go.Lx

/- A goroutine's own step: the whole. -/
namespace Go.Lx
variable {P : Program}

theorem exitTo_sub : ∀ (k : List Item) (id : Nat) {k' : List Item}, exitTo id k = some k' → ∀ i ∈ k', i ∈ k := by
  intro k
  induction k with
  | nil => intro id k' h; cases h
  | cons a k ih =>
    intro id k' h i hi
    unfold exitTo at h
    split at h
    · rename_i heq
      cases heq
      split at h
      · cases h; exact List.mem_cons_of_mem _ hi
      · exact List.mem_cons_of_mem _ (ih _ h i hi)
    · rename_i heq
      cases heq
      exact List.mem_cons_of_mem _ (ih _ h i hi)
    · rename_i heq; cases heq
theorem gotoIn_ok : ∀ (k : List Item) (l : Nat) {k' : List Item}, (∀ i ∈ k, ItemOk i) → gotoIn l k = some k' → ∀ i ∈ k', ItemOk i := by
  intro k
  induction k with
  | nil => intro l k' _ h; cases h
  | cons a k ih =>
    intro l k' hk h i hi
    have hk2 := fun j hj => hk j (List.mem_cons_of_mem a hj)
    unfold gotoIn at h
    split at h
    · rename_i body k0 heq
      cases heq
      split at h
      · cases h
        rcases List.mem_cons.1 hi with rfl | hi
        · trivial
        · rcases List.mem_cons.1 hi with rfl | hi
          · trivial
          · exact hk2 i hi
      · exact ih _ hk2 h i hi
    · rename_i heq; cases heq
      exact ih _ hk2 h i hi
    · rename_i heq; cases heq

theorem good_leave {main : Bool} {fr : Frame} {cs : List Frame} {dy : Option Dying} (jump : Option Code) (hf : FrOk fr) (hc : ∀ f ∈ cs, FrOk f) (F : World → GStep)
    (h0 : fr.roundOf = none → (∀ v, F v = .go { frame := { fr with mode := .returning }, callers := cs, status := .running, dying := dy } v) ∨ (∀ v, done (F v)))
    (h1 : ∀ l, fr.roundOf = some l → ∀ v, F v = GStep.after (seen P fr.fn ((Instr.endRound l jump).runT P v #[]).2) (match ((Instr.endRound l jump).runT P v #[]).1 with
      | .ok x w => doReturn P main fr cs dy x w
      | .halt _ w => .ended (.stuck "range over a function: no such loop" (fr.pos P)) w)) (w : World) : Good F w := by
  cases hr : fr.roundOf with
  | none =>
    rcases h0 hr with h | h
    · rw [show F = fun v => _ from funext h]
      exact good_go ⟨hf, hc, (by simp [StOk])⟩ bal0
    · exact .inl (h w)
  | some l =>
    have e := h1 l hr
    obtain ⟨r, es, hrun, hms, hb, hn⟩ := run_data (φ := fun _ => True) (ok_Instr_endRound (P := P) l jump) w
    rcases hn with ⟨h, w', hd, rfl⟩ | ⟨c, g1, g2, g3⟩
    · left; rw [e, hrun]; exact done_after trivial
    · cases r with
      | ok a w' =>
        refine good_then (w' := w') (c := c) g1 g2 (by rw [e, hrun]) (fun τ d ha => by rw [e, g3 τ d ha]; rfl) ?_
        exact good_after (fun _ => listed_bal hms hb.2) (good_doReturn hf hc w')
      | halt h w' => left; rw [e, hrun]; exact done_after trivial

theorem good_oper (T : Tame P) {fr : Frame} {cs : List Frame} {dy : Option Dying} (hf : FrOk fr) (hc : ∀ f ∈ cs, FrOk f) (w : World) : Good (fun w => stepG.oper P true fr cs dy w) w := by
  unfold stepG.oper
  split
  · exact .inl trivial
  · split
    · exact good_apply hf hc (Ok.bind (ok_resolve _ _ _) fun _ => Ok.bind (ok_Instr_deferInRound _ _) fun _ => (OkN.pure (P := P) (x := .skip) trivial)) w
    · exact good_apply hf hc (ok_execOp T _ _) w

theorem good_exec (T : Tame P) {main : Bool} {fr : Frame} {cs : List Frame} {dy : Option Dying} (hf : FrOk fr) (hc : ∀ f ∈ cs, FrOk f) (w : World) : Good (fun w => stepG.exec P main true fr cs dy w) w := by
  obtain ⟨fn, tmps, todo, defers, mode, kind, ro⟩ := fr
  have to : ∀ l : List Item, (∀ i ∈ l, ItemOk i) → Good (fun v => GStep.go { frame := ⟨fn, tmps, l, defers, mode, kind, ro⟩, callers := cs, status := .running, dying := dy } v) w :=
    fun l hl => good_go (g := { frame := ⟨fn, tmps, l, defers, mode, kind, ro⟩, callers := cs, status := .running, dying := dy }) ⟨hl, hc, (by simp [StOk])⟩ bal0
  cases todo with
  | nil =>
    refine good_leave (P := P) (dy := dy) (main := main) (fr := ⟨fn, tmps, [], defers, mode, kind, ro⟩) none hf hc _ (fun h => .inl fun v => ?_) (fun l h v => ?_) w
    · cases h; rfl
    · cases h; rfl
  | cons i k =>
    have hk : ∀ j ∈ k, ItemOk j := fun j hj => hf j (List.mem_cons_of_mem _ hj)
    have c1 : ∀ a : Item, ItemOk a → ∀ j ∈ a :: k, ItemOk j := fun a ha j hj => by
      rcases List.mem_cons.1 hj with rfl | hj
      · exact ha
      · exact hk j hj
    have c2 : ∀ a b : Item, ItemOk a → ItemOk b → ∀ j ∈ a :: b :: k, ItemOk j := fun a b ha hb j hj => by
      rcases List.mem_cons.1 hj with rfl | hj
      · exact ha
      · exact c1 b hb j hj
    cases i with
    | code c =>
      cases c with
      | skip => exact to _ hk
      | label l => exact to _ hk
      | seq a b => exact to _ (c2 _ _ trivial trivial)
      | cond c a b =>
        simp only [stepG.exec]
        split
        · exact to _ (c1 _ trivial)
        · exact .inl trivial
      | block id b => exact to _ (c2 _ _ trivial trivial)
      | loop b => exact to _ (c2 _ _ trivial trivial)
      | scope b => exact to _ (c2 _ _ trivial trivial)
      | refuse x => exact .inl trivial
      | ret =>
        refine good_leave (P := P) (dy := dy) (main := main) (fr := ⟨fn, tmps, .code .ret :: k, defers, mode, kind, ro⟩) (some .ret) hf hc _ (fun h => .inl fun v => ?_) (fun l h v => ?_) w
        · cases h; rfl
        · cases h; rfl
      | exit id =>
        simp only [stepG.exec]
        cases he : exitTo id k with
        | some k' => exact to _ fun i hi => hk i (exitTo_sub _ _ he i hi)
        | none =>
          refine good_leave (P := P) (dy := dy) (main := main) (fr := ⟨fn, tmps, .code (.exit id) :: k, defers, mode, kind, ro⟩) (some (.exit id)) hf hc _ (fun h => .inr fun v => ?_) (fun l h v => ?_) w
          · cases h; trivial
          · cases h; rfl
      | goto l =>
        simp only [stepG.exec]
        cases he : gotoIn l k with
        | some k' => exact to _ (gotoIn_ok _ _ hk he)
        | none =>
          refine good_leave (P := P) (dy := dy) (main := main) (fr := ⟨fn, tmps, .code (.goto l) :: k, defers, mode, kind, ro⟩) (some (.goto l)) hf hc _ (fun h => .inr fun v => ?_) (fun l h v => ?_) w
          · cases h; trivial
          · cases h; rfl
      | region id ops draw =>
        cases draw with
        | false => exact to _ (c1 _ trivial)
        | true =>
          have r1 := choose_run (P := P) (q := .order fn id) rfl w
          refine good_win 1 ?_ fun τ d ha => ?_
          · simp only [stepG.exec, Bool.not_true, Bool.false_eq_true, if_false, r1]
            exact .inr ⟨⟨c1 _ trivial, hc, (by simp [StOk])⟩, bal0⟩
          · have r2 := choose_run_re (P := P) (q := .order fn id) rfl (w := w) (τ := τ) (d := d) (c := 0) (by simpa using ha)
            simp only [stepG.exec, Bool.not_true, Bool.false_eq_true, if_false, r1, r2]
            rfl
      | rangeFunc f ps a b =>
        obtain ⟨r, es, hr, hms, hb, hn⟩ := run_data (φ := fun _ => True) (ok_Instr_enterLoop (P := P) fn tmps ps a b ro) w
        rcases hn with ⟨h, w', hd, rfl⟩ | ⟨c, h1, h2, h3⟩
        · left; simp only [stepG.exec, hr]; exact done_after trivial
        · cases r with
          | ok x w' =>
            obtain ⟨l, mk⟩ := x
            refine good_then (w' := w') (c := c) h1 h2 (by simp only [stepG.exec, hr]; rfl) (fun τ d ha => by simp only [stepG.exec, h3 τ d ha]; rfl) ?_
            refine good_after (fun _ => listed_bal hms hb.2) (good_apply ?_ hc (Ok.bind (ok_resolve _ _ _) fun _ => ok_invoke T _ _) w')
            exact c1 _ trivial
          | halt h w' => left; simp only [stepG.exec, hr]; exact done_after trivial
    | inBlock id => exact to _ hk
    | inScope b => exact to _ hk
    | inLoop b => exact to _ (c2 _ _ trivial trivial)
    | inRegion ops l =>
      cases l with
      | nil => exact to _ hk
      | cons j l =>
        simp only [stepG.exec]
        split
        · exact good_oper T hf hc w
        · exact good_go ⟨frOk_finish hf _, hc, (by simp [StOk])⟩ bal0
    | inRangeFunc l => exact .inl trivial
    | endRangeFunc l =>
      obtain ⟨r, es, hr, hms, hb, hn⟩ := run_data (φ := fun _ => True) (ok_Instr_endLoop (P := P) l) w
      rcases hn with ⟨h, w', hd, rfl⟩ | ⟨c, h1, h2, h3⟩
      · left
        simp only [stepG.exec, hr]
        refine done_after ?_
        cases h <;> first | trivial | cases hd
      · cases r with
        | ok x w' =>
          refine good_then (w' := w') (c := c) h1 h2 (by simp only [stepG.exec, hr]; rfl) (fun τ d ha => by simp only [stepG.exec, h3 τ d ha]; rfl) ?_
          refine good_after (fun _ => listed_bal hms hb.2) (good_go ⟨?_, hc, (by simp [StOk])⟩ bal0)
          intro i hi
          rcases List.mem_append.1 hi with hi | hi
          · cases x with
            | none => cases hi
            | some y =>
              simp at hi
              subst hi; trivial
          · exact hk i hi
        | halt h w' =>
          cases h with
          | panic v =>
            refine good_then (w' := w') (c := c) h1 h2 (by simp only [stepG.exec, hr]; rfl) (fun τ d ha => by simp only [stepG.exec, h3 τ d ha]; rfl) ?_
            exact good_after (fun _ => listed_bal hms (hb.2.resolve_left id)) (good_go ⟨frOk_raise hf _, hc, (by simp [StOk])⟩ bal0)
          | _ => left; simp only [stepG.exec, hr]; exact done_after trivial
    | beginRound =>
      refine good_apply hf hc ?_ w
      cases ro with
      | none => exact Ok.bind ok_stuck fun _ => OkN.pure (P := P) (x := .skip) trivial
      | some l => exact Ok.bind (ok_Instr_beginRound l) fun _ => OkN.pure (P := P) (x := .skip) trivial
    | call d b r s => exact absurd (hf (.call d b r s) List.mem_cons_self) id
    | extern r a =>
      obtain rfl : r = "runtime.print$piece" := hf (.extern r a) List.mem_cons_self
      have e : Extern.next "runtime.print$piece" = some (Extern.PrintPieces.piece #[] #[]) := by kernel_rfl
      have e2 : ∀ v, stepG.exec P main true ⟨fn, tmps, .extern "runtime.print$piece" a :: k, defers, mode, kind, ro⟩ cs dy v = stepG.apply P true ⟨fn, tmps, .extern "runtime.print$piece" a :: k, defers, mode, kind, ro⟩ cs dy (Extern.PrintPieces.piece #[] #[] a) v := by
        intro v
        simp only [stepG.exec, e]
        rfl
      rw [show (fun w => stepG.exec P main true ⟨fn, tmps, .extern "runtime.print$piece" a :: k, defers, mode, kind, ro⟩ cs dy w) = _ from funext e2]
      exact good_apply hf hc (ok_piece _ _ _) w

/-- THE STEP. -/
theorem good_stepG (T : Tame P) {main : Bool} {g : Goroutine} (hg : GOk g) (w : World) : Good (fun w => stepG P main g w) w := by
  obtain ⟨fr, cs, st, dy, off⟩ := g
  obtain ⟨hf, hc⟩ := hg
  have hf : FrOk fr := hf
  have hc : ∀ f ∈ cs, FrOk f := hc
  have hrest : Good (fun w => match fr.mode with | .run => stepG.exec P main true fr cs dy w | _ => unwind P main fr cs dy w) w := by
    cases fr.mode with
    | run => exact good_exec T hf hc w
    | returning => exact good_unwind T hf hc w
    | panicking c => exact good_unwind T hf hc w
  cases dy with
  | none =>
    refine cast ?_ hrest
    congr 1
    funext v
    simp only [stepG]
    cases fr.mode <;> rfl
  | some d =>
    obtain ⟨todo, texts, calling, pending, re0, hand, fatal⟩ := d
    cases calling with
    | false => exact good_die T hf w
    | true =>
      refine cast ?_ hrest
      congr 1
      funext v
      simp only [stepG]
      cases fr.mode <;> rfl
end Go.Lx
