/-
  Marks: the seat's laid table; MarkMakes.
-/
import Derived.Test.YtjohlbpahaklkaaDoorDoor
import Derived.Test.YtjohlbpahaklkaaDoorG
namespace Go.Proofs.YtjohlbpahaklkaaDoor
set_option linter.unusedVariables false
set_option linter.unusedSimpArgs false
open Go.RowKit

theorem tab_eq : (Rows.laid_internal_strconv_uint64pow10 : DataW Unit) = Lib.tabData .u64 Lib.pow10Tab := by kernel_rfl
theorem tb_of {W : World} (h : laidMetH Tryd.prog Rows.markMakesRow.laid W) : Tb W := by
  have e : (Rows.markMakesRow.laid.filter fun x => x.2.handleName?.isNone) = Rows.markMakesRow.laid := by kernel_rfl
  have h1 := (laidMetH_iff.1 h).1
  rw [e] at h1
  have h2 : laidMet Tryd.prog [("internal/strconv.uint64pow10", Rows.laid_internal_strconv_uint64pow10)] W := h1.tail.tail
  rw [tab_eq] at h2
  exact Lib.tabIs_of_head (g := 0) (t := 102) (e := 73) (by kernel_rfl) (by kernel_rfl) Tryd.underlying102 Tryd.underlying73 (by kernel_rfl) (by kernel_rfl) h2
def doorN : Nat := 24
theorem door_met (os : Os) (args : Array Value) : laidMetH Tryd.prog Rows.markMakesRow.laid ((World.doorLaid Tryd.prog doorN os).forCall (fun _ _ => 0) ⟨#[], args, []⟩).memory :=
  laidMetH_of_parts3 (fuel := 8) (laidMet_of_run' 8 (by kernel_rfl) (by kernel_rfl)) (by kernel_rfl) (by kernel_rfl)
end Go.Proofs.YtjohlbpahaklkaaDoor
