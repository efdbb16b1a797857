/-
  Days: the seat's laid tables.
-/
import Derived.Test.YtpgldnjejnigiaaDoorDoor
import Derived.Test.YtpgldnjejnigiaaDoorU
namespace Go.Proofs.YtpgldnjejnigiaaDoor
open Go.RowKit

theorem tab_eq : (Rows.laid_internal_strconv_uint64pow10 : DataW Unit) = Lib.tabData .u64 Lib.pow10Tab := by kernel_rfl
theorem mon_eq : (Rows.laid_supercargo_day_months : DataW Unit) = Lib.tabData .i64 monTab := by kernel_rfl
theorem laid_parts {W : World} (h : laidMetH Tryd.prog Rows.dayMonthsRow.laid W) : laidMet Tryd.prog [("internal/strconv.uint64pow10", Rows.laid_internal_strconv_uint64pow10), ("supercargo/day.months", Rows.laid_supercargo_day_months)] W := by
  have e : (Rows.dayMonthsRow.laid.filter fun x => x.2.handleName?.isNone) = Rows.dayMonthsRow.laid := by kernel_rfl
  have h1 := (laidMetH_iff.1 h).1
  rw [e] at h1
  exact h1.tail.tail
theorem tb_of0 {W : World} (h : laidMetH Tryd.prog Rows.dayMonthsRow.laid W) : Tb W := by
  have h2 := laid_parts h
  rw [tab_eq] at h2
  exact Lib.tabIs_of_head (g := 3) (t := 89) (e := 71) (by kernel_rfl) (by kernel_rfl) Tryd.underlying89 Tryd.underlying71 (by kernel_rfl) (by kernel_rfl) h2
theorem mt_of {W : World} (h : laidMetH Tryd.prog Rows.dayMonthsRow.laid W) : Mt W := by
  have h2 := (laid_parts h).tail
  rw [mon_eq] at h2
  exact Lib.tabIs_of_head (g := 0) (t := 58) (e := 3) (by kernel_rfl) (by kernel_rfl) Tryd.underlying58 Tryd.underlying3 (by kernel_rfl) (by kernel_rfl) h2
theorem tb_of {W : World} (h : laidMetH Tryd.prog Rows.dayMonthsRow.laid W) : Mt W ∧ Tb W := ⟨mt_of h, tb_of0 h⟩
def doorN : Nat := 100
theorem door_met (os : Os) (args : Array Value) : laidMetH Tryd.prog Rows.dayMonthsRow.laid ((World.doorLaid Tryd.prog doorN os).forCall (fun _ _ => 0) ⟨#[], args, []⟩).memory :=
  laidMetH_of_parts3 (fuel := 8) (laidMet_of_run' 8 (by kernel_rfl) (by kernel_rfl)) (by kernel_rfl) (by kernel_rfl)
end Go.Proofs.YtpgldnjejnigiaaDoor
