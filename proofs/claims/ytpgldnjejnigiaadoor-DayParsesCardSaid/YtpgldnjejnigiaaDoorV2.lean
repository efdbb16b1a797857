/-
  Days: the seat's laid tables, with the library's two errors.
-/
import Derived.Test.YtpgldnjejnigiaaDoorV
namespace Go.Proofs.YtpgldnjejnigiaaDoor
namespace Two
open Go.RowKit

theorem laid_parts {W : World} (h : laidMetH Tryd.prog Rows.dayTextsRow.laid W) : laidMet Tryd.prog Rows.dayTextsRow.laid W := by
  have e : (Rows.dayTextsRow.laid.filter fun x => x.2.handleName?.isNone) = Rows.dayTextsRow.laid := by kernel_rfl
  have h1 := (laidMetH_iff.1 h).1
  rw [e] at h1
  exact h1
theorem tb_of {W : World} (h : laidMetH Tryd.prog Rows.dayTextsRow.laid W) : Mt W ∧ Tb W := by
  have h1 := laid_parts h
  have h2 : laidMet Tryd.prog (("internal/strconv.uint64pow10", Rows.laid_internal_strconv_uint64pow10) :: _) W := h1.tail.tail
  have h3 : laidMet Tryd.prog [("supercargo/day.months", Rows.laid_supercargo_day_months)] W := h2.tail.tail.tail
  rw [tab_eq] at h2
  rw [mon_eq] at h3
  exact ⟨Lib.tabIs_of_head (g := 0) (t := 58) (e := 3) (by kernel_rfl) (by kernel_rfl) Tryd.underlying58 Tryd.underlying3 (by kernel_rfl) (by kernel_rfl) h3,
    Lib.tabIs_of_head (g := 3) (t := 89) (e := 71) (by kernel_rfl) (by kernel_rfl) Tryd.underlying89 Tryd.underlying71 (by kernel_rfl) (by kernel_rfl) h2⟩
theorem door_met (os : Os) (args : Array Value) : laidMetH Tryd.prog Rows.dayTextsRow.laid ((World.doorLaid Tryd.prog doorN os).forCall (fun _ _ => 0) ⟨#[], args, []⟩).memory :=
  laidMetH_of_parts3 (fuel := 8) (laidMet_of_run' 8 (by kernel_rfl) (by kernel_rfl)) (by kernel_rfl) (by kernel_rfl)
end Two
end Go.Proofs.YtpgldnjejnigiaaDoor
