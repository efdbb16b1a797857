/-
  The frame of a tied card.
-/
import Derived.Test.YtgnmjopifdekiaaDoorFrame
import Derived.Test.YtgnmjopifdekiaaDoorCards
import Derived.Test.YtgnmjopifdekiaaDoorTie
import Derived.LaidMore
import Derived.Stop.Joined
import Derived.Stop.LaidErr
import Derived.Lib.LaidTab
import Derived.MakeChecks
import Derived.SevenTiedAt
namespace Go.Proofs.YtgnmjopifdekiaaDoor
set_option linter.unusedVariables false
set_option linter.unusedSimpArgs false
open Go.ChangeShapes Go.WideShapes Go.ChangeAt Go.RowKit Go.Deep

theorem own_ : ownKnob Tryd.prog.godebug = none := by kernel_rfl
theorem laidOut_ : laidOutB Tryd.prog = true := by kernel_rfl
/-- no parameter wants a stand-in -/
theorem plain_ {lk : Bool} (hlk : lk = Tryd.pinned.checked.prog.looks []) {name : String} (f0 : FuncId) (fn0 : Func) (h0 : Tryd.prog.funcNamed name = some f0) (h1 : Tryd.prog.funcs[f0]? = some fn0) (h2 : (fn0.params.toList.all fun u => !Tryd.prog.wantsStandIn u) = true)
    (f : FuncId) (fn : Func) (hf : Tryd.pinned.checked.prog.funcNamed name = some f) (hfn : Tryd.pinned.checked.prog.funcs[f]? = some fn) :
    lk = Tryd.pinned.checked.prog.looks [] ∧ ∀ (j : Nat) t, fn.params[j]? = some t → Tryd.pinned.checked.prog.wantsStandIn t = false := by
  obtain rfl : f0 = f := Option.some.inj (h0.symm.trans hf)
  obtain rfl : fn0 = fn := Option.some.inj (h1.symm.trans hfn)
  refine ⟨hlk, fun j t ht => ?_⟩
  have := List.all_eq_true.1 h2 t (Array.mem_toList_iff.2 (Array.mem_of_getElem? ht))
  have h3 : Tryd.prog.wantsStandIn t = false := by simpa using this
  exact h3
end Go.Proofs.YtgnmjopifdekiaaDoor
