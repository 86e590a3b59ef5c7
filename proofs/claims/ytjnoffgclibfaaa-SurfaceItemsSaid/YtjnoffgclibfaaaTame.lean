/- The program's functions without a Go body are plain ones. Laid by a program of mine (wip/mktame.py). -/
import Derived.Test.YtjnoffgclibfaaaChecked
import Derived.Test.YtjnoffgclibfaaaLxF
import Derived.KernelRfl
namespace Go.Proofs.Ytjnoffgclibfaaa
open Go.Lx

theorem okx_kind : ∀ args, Ok Try.prog ((Extern.ReflectliteType.rows.getD 11 ("", Extern.RuntimeError.nothing)).2 args) := by
  intro args
  exact Ok.bind (ok_asInt _) fun _ => Ok.pure
theorem ext_no {fn : Func} {e : Array Value → Sem Value} {f : FuncId} {g : Func} (h : Try.prog.funcs[f]? = some fn) (hg : Try.prog.funcs[f]? = some g) (he : Extern.find fn = some e) (hn : (Extern.find g).isNone = true) : False := by
  have := Option.some.inj (hg.symm.trans h)
  subst this
  rw [he] at hn
  cases hn
theorem ext_yes {fn : Func} {e e' : Array Value → Sem Value} {f : FuncId} {g : Func} (h : Try.prog.funcs[f]? = some fn) (hg : Try.prog.funcs[f]? = some g) (he : Extern.find fn = some e) (hn : Extern.find g = some e') : e = e' := by
  have := Option.some.inj (hg.symm.trans h)
  subst this
  exact Option.some.inj (he.symm.trans hn)

theorem tame : Tame Try.prog := by
  refine tame_of [0, 1, 48, 65, 70, 72, 73, 74, 75, 76, 77, 78, 79, 80, 81, 82, 83, 84, 85, 86, 87, 88, 89, 90] (by kernel_rfl) (by kernel_rfl) (by kernel_rfl) ?_
  intro f hf fn e h he args
  simp only [List.mem_cons, List.not_mem_nil, or_false] at hf
  rcases hf with rfl | rfl | rfl | rfl | rfl | rfl | rfl | rfl | rfl | rfl | rfl | rfl | rfl | rfl | rfl | rfl | rfl | rfl | rfl | rfl | rfl | rfl | rfl | rfl
  · exact (ext_no h Try.func0 he (by kernel_rfl)).elim
  · exact (ext_no h Try.func1 he (by kernel_rfl)).elim
  · rw [ext_yes (e' := Extern.BytealgCount.count) h Try.func48 he (by kernel_rfl)]
    exact okx_count args
  · rw [ext_yes (e' := Extern.BytealgIndex.index) h Try.func65 he (by kernel_rfl)]
    exact okx_index args
  · rw [ext_yes (e' := Extern.BytealgIndexByte.indexByte) h Try.func70 he (by kernel_rfl)]
    exact okx_indexByte args
  · rw [ext_yes (e' := Extern.AbiNoEscape.same) h Try.func72 he (by kernel_rfl)]
    exact okx_same args
  · rw [ext_yes (e' := Extern.BytealgMakeNoZero.makeNoZero Try.f73.params Try.f73.resultTypes) h Try.func73 he (by kernel_rfl)]
    exact okx_makeNoZero _ _ args
  · rw [ext_yes (e' := Extern.RuntimeError.boundsError) h Try.func74 he (by kernel_rfl)]
    exact okx_boundsError args
  · rw [ext_yes (e' := Extern.RuntimeError.nothing) h Try.func75 he (by kernel_rfl)]
    exact okx_nothing args
  · rw [ext_yes (e' := (Extern.RuntimeError.rows.getD 0 ("", Extern.RuntimeError.nothing)).2) h Try.func76 he (by kernel_rfl)]
    exact okx_row0 args
  · rw [ext_yes (e' := Extern.RuntimeError.nothing) h Try.func77 he (by kernel_rfl)]
    exact okx_nothing args
  · rw [ext_yes (e' := (Extern.RuntimeError.rows.getD 1 ("", Extern.RuntimeError.nothing)).2) h Try.func78 he (by kernel_rfl)]
    exact okx_row1 args
  · rw [ext_yes (e' := Extern.RuntimeError.nothing) h Try.func79 he (by kernel_rfl)]
    exact okx_nothing args
  · rw [ext_yes (e' := (Extern.RuntimeError.rows.getD 2 ("", Extern.RuntimeError.nothing)).2) h Try.func80 he (by kernel_rfl)]
    exact okx_row2 args
  · rw [ext_yes (e' := Extern.RuntimeError.nothing) h Try.func81 he (by kernel_rfl)]
    exact okx_nothing args
  · rw [ext_yes (e' := Extern.RuntimeError.typeAssertionError) h Try.func82 he (by kernel_rfl)]
    exact okx_typeAssertionError args
  · rw [ext_yes (e' := Extern.RuntimeError.nothing) h Try.func83 he (by kernel_rfl)]
    exact okx_nothing args
  · rw [ext_yes (e' := (Extern.RuntimeError.rows.getD 6 ("", Extern.RuntimeError.nothing)).2) h Try.func84 he (by kernel_rfl)]
    exact okx_row6 args
  · rw [ext_yes (e' := Extern.RuntimeError.nothing) h Try.func85 he (by kernel_rfl)]
    exact okx_nothing args
  · exact (ext_no h Try.func86 he (by kernel_rfl)).elim
  · rw [ext_yes (e' := Extern.RuntimeError.unhashableTypeError) h Try.func87 he (by kernel_rfl)]
    exact okx_unhashable args
  · rw [ext_yes (e' := Extern.RuntimeError.nothing) h Try.func88 he (by kernel_rfl)]
    exact okx_nothing args
  · exact (ext_no h Try.func89 he (by kernel_rfl)).elim
  · rw [ext_yes (e' := (Extern.ReflectliteType.rows.getD 11 ("", Extern.RuntimeError.nothing)).2) h Try.func90 he (by kernel_rfl)]
    exact okx_kind args
end Go.Proofs.Ytjnoffgclibfaaa
