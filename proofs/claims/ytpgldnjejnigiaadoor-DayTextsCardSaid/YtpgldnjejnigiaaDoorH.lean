/-
  Days: years and months, walked.
-/
import Derived.Test.YtpgldnjejnigiaaDoorPm
import Derived.Test.YtpgldnjejnigiaaDoorBase
import Derived.Lib.AppendIntMem
import Derived.Lib.SmallJoins
namespace Go.Proofs.YtpgldnjejnigiaaDoor
open Go.RowKit

theorem isW (d : Int) (w : World) : Calls Tryd.prog 33 #[.int .i64 d] w fun e w' => e = .returned (.bool (isD d)) ∧ w = w' := by
  go_enter Tryd.func33, Tryd.ntmps33
  go_wp2
  all_goals (go_ret; go_light; refine ⟨ret_bool ?_, rfl⟩; unfold isD; simp_all; try omega)
theorem refIsW (d : Int) (w : World) : Calls Tryd.prog 14 #[.int .i64 d] w fun e w' => e = .returned (.bool (isD d)) ∧ w = w' := by
  go_enter Tryd.func14, Tryd.ntmps14
  go_wp2
  all_goals (go_ret; go_light; refine ⟨ret_bool ?_, rfl⟩; unfold isD; simp_all; try omega)

def monTab : List Int := [31, 28, 31, 30, 31, 30, 31, 31, 30, 31, 30, 31]
/-- the program's table reads as it is laid -/
def Mt (w : World) : Prop := Lib.TabIs Tryd.prog w "supercargo/day.months" .i64 monTab
theorem Mt.next {w w' : World} (h : Mt w) (hb : Below w.heap.size w w') : Mt w' := Lib.tabBelow_of_tabIs h w' hb
def mz (k : Nat) : Int := monTab.getD k 0
theorem Mt.cell {w : World} (h : Mt w) (k : Nat) (hk : k < 12) : w.cell? ⟨0, k, none⟩ = some (.int .i64 (mz k)) := Lib.TabIs.cell h (by kernel_rfl) k hk
theorem mz_all : ∀ k : Fin 12, (28 ≤ mz k ∧ mz k ≤ 31) ∧ (mz k = if k.val = 1 then 28 else if k.val = 3 ∨ k.val = 5 ∨ k.val = 8 ∨ k.val = 10 then 30 else 31) := by decide
theorem mz_range (k : Nat) (hk : k < 12) : 28 ≤ mz k ∧ mz k ≤ 31 := (mz_all ⟨k, hk⟩).1
theorem mz_eq (k : Nat) (hk : k < 12) : mz k = if k = 1 then 28 else if k = 3 ∨ k = 5 ∨ k = 8 ∨ k = 10 then 30 else 31 := (mz_all ⟨k, hk⟩).2
theorem mon_one (y : Int) : monL y 1 = if leapB y then 29 else 28 := by unfold monL; rw [if_pos rfl]
theorem mon_other (y : Int) (k : Nat) (hk : k < 12) (h1 : k ≠ 1) : monL y k = mz k := by
  rw [mz_eq k hk, if_neg h1]
  unfold monL
  rw [if_neg (by omega)]
  by_cases h : k = 3 ∨ k = 5 ∨ k = 8 ∨ k = 10
  · rw [if_pos h, if_pos (by omega)]
  · rw [if_neg h, if_neg (by omega)]
theorem leapW (y : Int) (w : World) (h0 : 0 ≤ y) (h1 : y ≤ 100000) : Calls Tryd.prog 53 #[.int .i64 y] w fun e w' => e = .returned (.bool (leapB y)) ∧ w = w' := by
  go_enter Tryd.func53, Tryd.ntmps53
  go_wp2
  all_goals (go_ret; go_light; refine ⟨ret_bool ?_, rfl⟩; unfold leapB; simp_all; all_goals (rw [Bool.eq_iff_iff]; simp))
theorem refLeapW (y : Int) (w : World) (h0 : 0 ≤ y) (h1 : y ≤ 100000) : Calls Tryd.prog 54 #[.int .i64 y] w fun e w' => e = .returned (.bool (leapB y)) ∧ w = w' := by
  go_enter Tryd.func54, Tryd.ntmps54
  go_wp2
  all_goals (go_ret; go_light; refine ⟨ret_bool ?_, rfl⟩; unfold leapB; simp_all; all_goals (rw [Bool.eq_iff_iff]; simp))
theorem daysW (y : Int) (w : World) (h0 : 0 ≤ y) (h1 : y ≤ 100000) : Calls Tryd.prog 34 #[.int .i64 y] w fun e w' => e = .returned (.int .i64 (yearL y)) ∧ w = w' := by
  have hL := fun w => leapW y w h0 h1
  unfold yearL
  cases h : leapB y <;>
  · simp only [h] at hL
    clear h
    go_enter Tryd.func34, Tryd.ntmps34
    go_wp2_with (go_at_call 53; refine (hL _).mono ?_; rintro e w' ⟨rfl, rfl⟩)
    go_ret
    exact ⟨rfl, rfl⟩
theorem refYearW (y : Int) (w : World) (h0 : 0 ≤ y) (h1 : y ≤ 100000) : Calls Tryd.prog 39 #[.int .i64 y] w fun e w' => e = .returned (.int .i64 (yearL y)) ∧ w = w' := by
  have hL := fun w => refLeapW y w h0 h1
  unfold yearL
  cases h : leapB y <;>
  · simp only [h] at hL
    clear h
    go_enter Tryd.func39, Tryd.ntmps39
    go_wp2_with (go_at_call 54; refine (hL _).mono ?_; rintro e w' ⟨rfl, rfl⟩)
    go_ret
    exact ⟨rfl, rfl⟩
theorem monthW (y : Int) (k : Nat) (w : World) (h0 : 0 ≤ y) (h1 : y ≤ 100000) (hk : k < 12) (hT : Mt w) : Calls Tryd.prog 35 #[.int .i64 y, .int .i64 k] w fun e w' => e = .returned (.int .i64 (monL y k)) ∧ w = w' := by
  have hL := fun w => leapW y w h0 h1
  have hc := hT.cell k hk
  by_cases e1 : k = 1
  · subst e1
    have hz : mz 1 = 28 := rfl
    rw [hz] at hc
    have he := Lib.hid (mon_one y)
    cases h : leapB y <;>
    · simp only [h] at hL he
      clear h hz
      go_enter Tryd.func35, Tryd.ntmps35
      go_wp2_with (go_at_call 53; refine (hL _).mono ?_; rintro e w' ⟨rfl, rfl⟩)
      go_ret
      exact ⟨ret_int (by first | exact he.out.symm | (have := he.out; simp at this ⊢; exact this.symm)), rfl⟩
  · have he := Lib.hid (mon_other y k hk e1)
    have e2 : ((k : Int) == 1) = false := by simp; omega
    clear hL
    go_enter Tryd.func35, Tryd.ntmps35
    go_wp2
    go_ret
    exact ⟨ret_int he.out.symm, rfl⟩
theorem refDaysW (y : Int) (k : Nat) (w : World) (h0 : 0 ≤ y) (h1 : y ≤ 100000) (hk : k < 12) (m : Int) (hm : m = k + 1) : Calls Tryd.prog 37 #[.int .i64 y, .int .i64 m] w fun e w' => e = .returned (.int .i64 (monL y k)) ∧ w = w' := by
  have hL := fun w => refLeapW y w h0 h1
  by_cases e1 : k = 1
  · subst e1
    obtain rfl : m = 2 := hm
    have he := Lib.hid (mon_one y)
    cases h : leapB y <;>
    · simp only [h] at hL he
      clear h
      go_enter Tryd.func37, Tryd.ntmps37
      go_wp2_with (go_at_call 54; refine (hL _).mono ?_; rintro e w' ⟨rfl, rfl⟩)
      go_ret
      exact ⟨ret_int (by have := he.out; simp at this ⊢; exact this.symm), rfl⟩
  · have he := Lib.hid (mon_other y k hk e1)
    have hz := Lib.hid (mz_eq k hk)
    have e2 : (m == 2) = false := by simp; omega
    have hm' := Lib.hid hm
    clear hL hm
    go_enter Tryd.func37, Tryd.ntmps37
    go_wp2
    all_goals (go_ret; go_light; refine ⟨ret_int ?_, rfl⟩; have a := he.out; have b := hz.out; have c := hm'.out; rw [a, b, if_neg e1]; clear a b; simp at *; omega)
end Go.Proofs.YtpgldnjejnigiaaDoor
