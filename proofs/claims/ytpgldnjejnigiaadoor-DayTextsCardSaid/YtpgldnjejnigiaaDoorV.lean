/-
  Days: the seat's laid tables.
-/
import Derived.Test.YtpgldnjejnigiaaDoorDoor
import Derived.Test.YtpgldnjejnigiaaDoorU
namespace Go.Proofs.YtpgldnjejnigiaaDoor
open Go.RowKit

theorem tab_eq : (Rows.laid_internal_strconv_uint64pow10 : DataW Unit) = Lib.tabData .u64 Lib.pow10Tab := by kernel_rfl
theorem mon_eq : (Rows.laid_supercargo_day_months : DataW Unit) = Lib.tabData .i64 monTab := by kernel_rfl
theorem laid_parts {W : World} (h : laidMetH Tryd.prog Rows.dayMonthsRow.laid W) : laidMet Tryd.prog [("internal/strconv.uint64pow10", Rows.laid_internal_strconv_uint64pow10), ("supercargo/day.months", Rows.laid_supercargo_day_months)] W := by
  have e : (Rows.dayMonthsRow.laid.filter fun x => x.2.handleName?.isNone) = Rows.dayMonthsRow.laid := by kernel_rfl
  have h1 := (laidMetH_iff.1 h).1
  rw [e] at h1
  exact h1.tail.tail
theorem tb_of0 {W : World} (h : laidMetH Tryd.prog Rows.dayMonthsRow.laid W) : Tb W := by
  have h2 := laid_parts h
  rw [tab_eq] at h2
  exact Lib.tabIs_of_head (g := 3) (t := 89) (e := 71) (by kernel_rfl) (by kernel_rfl) Tryd.underlying89 Tryd.underlying71 (by kernel_rfl) (by kernel_rfl) h2
theorem mt_of {W : World} (h : laidMetH Tryd.prog Rows.dayMonthsRow.laid W) : Mt W := by
  have h2 := (laid_parts h).tail
  rw [mon_eq] at h2
  exact Lib.tabIs_of_head (g := 0) (t := 58) (e := 3) (by kernel_rfl) (by kernel_rfl) Tryd.underlying58 Tryd.underlying3 (by kernel_rfl) (by kernel_rfl) h2
theorem tb_of {W : World} (h : laidMetH Tryd.prog Rows.dayMonthsRow.laid W) : Mt W ∧ Tb W := ⟨mt_of h, tb_of0 h⟩
def doorN : Nat := 100
theorem door_met (os : Os) (args : Array Value) : laidMetH Tryd.prog Rows.dayMonthsRow.laid ((World.doorLaid Tryd.prog doorN os).forCall (fun _ _ => 0) ⟨#[], args, []⟩).memory :=
  laidMetH_of_parts3 (fuel := 8) (laidMet_of_run' 8 (by kernel_rfl) (by kernel_rfl)) (by kernel_rfl) (by kernel_rfl)
section
open Go.Joins Go.ChangeShapes Go.WideShapes Go.ChangeAt Go.RowKit Go.Deep
variable {H : Type} {enc : TypeId × Value → H} {w : World} {base : Nat} {spare : Nat → Bool} {held : Bool}
theorem open_ri {fuel : Nat} {v : Value} {x : DataW H × List MemPlace} (h : DataW.trod enc Tryd.prog w base spare held fuel 29 [v] = some x) : ∃ A n c l, v = .slice A n c ∧ Ri w A n l := by
  rcases open_ints Tryd.underlying29 Tryd.underlying3 (by kernel_rfl) h with ⟨h0, -⟩ | ⟨a, len, cap, zs, hcs, -, hl, hm, hz, -, hc, -⟩
  · simp at h0
    exact ⟨_, _, _, [], h0, Ri_nil w⟩
  · simp at hcs
    have hzl : len ≤ zs.length := by rw [hz]; split <;> omega
    refine ⟨_, _, _, zs.take len, hcs, by simp [iv]; omega, fun hn => ⟨a, rfl, ?_, fun j u hu => ?_⟩⟩
    · exact cell_lt (hc 0 (by omega))
    · have hj : j < len := by
        have := (List.getElem?_eq_some_iff.1 hu).1
        simp [iv] at this
        omega
      rw [hc j (by omega)]
      simp [iv, List.getElem?_take, hj] at hu
      obtain ⟨z, hz1, hz2⟩ := hu
      rw [← hz2, List.getD_eq_getElem?_getD, hz1]
      rfl
theorem open_cal {v : Value} {d : DataW H} {p : List MemPlace} (hv : Value.okWide Tryd.prog w .any base 31 v) (h : DataW.Trod enc Tryd.prog w 0 spare held 31 v d p) :
    ∃ (x : Cv) (c : Cal), v = x.v ∧ Ri w x.A1 x.n1 c.rest ∧ Ri w x.A2 x.n2 c.hol := by
  obtain ⟨v0, v1, y0, y1, n, rfl, -, -, h0, h1⟩ := open_agg2 Tryd.underlying31 (by kernel_rfl) (by kernel_rfl) hv h
  obtain ⟨A1, n1, c1, l1, rfl, r1⟩ := open_ri h0
  obtain ⟨A2, n2, c2, l2, rfl, r2⟩ := open_ri h1
  exact ⟨⟨A1, n1, c1, A2, n2, c2⟩, ⟨l1, l2⟩, rfl, r1, r2⟩
end
end Go.Proofs.YtpgldnjejnigiaaDoor
