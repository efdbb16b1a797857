/-
  Money: scaling (plain).
-/
import Derived.Test.YtgnmjopifdekiaaDoorPt
namespace Go.Proofs.YtgnmjopifdekiaaDoor
set_option linter.unusedVariables false
set_option linter.unusedSimpArgs false

theorem div_of {p d q r : Int} (h : p = d * q + r) (h0 : 0 ≤ r) (h1 : r < d) : p / d = q ∧ p % d = r := by
  subst h
  have hd : d ≠ 0 := by omega
  constructor
  · rw [Int.add_comm, Int.add_mul_ediv_left r q hd, Int.ediv_eq_zero_of_lt h0 h1, Int.zero_add]
  · rw [Int.add_comm, Int.add_mul_emod_self_left, Int.emod_eq_of_lt h0 h1]
/-- twice -/
theorem div_twice (p d : Int) (hd : 0 < d) : (2 * p / d = 2 * (p / d) + if d ≤ 2 * (p % d) then 1 else 0) ∧ (2 * p % d = 2 * (p % d) - if d ≤ 2 * (p % d) then d else 0) := by
  have e := Int.mul_ediv_add_emod p d
  have r0 := Int.emod_nonneg p (show d ≠ 0 by omega)
  have r1 := Int.emod_lt_of_pos p hd
  have hm : d * (2 * (p / d)) = 2 * (d * (p / d)) := by rw [← Int.mul_assoc, Int.mul_comm d 2, Int.mul_assoc]
  split
  · exact div_of (by rw [Int.mul_add, hm]; omega) (by omega) (by omega)
  · rw [Int.add_zero, Int.sub_zero]
    exact div_of (by rw [hm]; omega) (by omega) (by omega)
/-- one more -/
theorem div_more (p m d : Int) (hd : 0 < d) : ((p + m) / d = p / d + m / d + if d ≤ p % d + m % d then 1 else 0) ∧ ((p + m) % d = p % d + m % d - if d ≤ p % d + m % d then d else 0) := by
  have e := Int.mul_ediv_add_emod p d
  have e' := Int.mul_ediv_add_emod m d
  have r0 := Int.emod_nonneg p (show d ≠ 0 by omega)
  have r1 := Int.emod_lt_of_pos p hd
  have s0 := Int.emod_nonneg m (show d ≠ 0 by omega)
  have s1 := Int.emod_lt_of_pos m hd
  split
  · exact div_of (by rw [Int.mul_add, Int.mul_add]; omega) (by omega) (by omega)
  · rw [Int.add_zero, Int.sub_zero]
    exact div_of (by rw [Int.mul_add]; omega) (by omega) (by omega)
/-- is one more taken, of what is left -/
def upB (way r d : Int) : Bool := (decide (way = 1) && decide (0 < r)) || (decide (way = 2) && decide (d - r ≤ r))
/-- the amount, from 0 on -/
def scQ (n num den way : Int) : Int := n * num / den + if upB way (n * num % den) den then 1 else 0
def sgn (a q : Int) : Int := if a < 0 then -q else q
def absI (a : Int) : Int := if a < 0 then -a else a
def fracB (num den : Int) : Bool := decide (0 ≤ num) && decide (1 ≤ den)
/-- scaled; none: it may not be -/
def scaleZ (c : ByteArray) (a num den way : Int) : Option Int :=
  if mayM c a && fracB num den && decide (0 ≤ way) && decide (way ≤ 2) && decide (scQ (absI a) num den way ≤ 1099511627776) then some (sgn a (scQ (absI a) num den way)) else none
theorem scQ_nonneg {n num den way : Int} (h0 : 0 ≤ n) (h1 : 0 ≤ num) (h2 : 1 ≤ den) : 0 ≤ n * num / den ∧ n * num / den ≤ scQ n num den way ∧ scQ n num den way ≤ n * num / den + 1 := by
  have := Int.ediv_nonneg (Int.mul_nonneg h0 h1) (show 0 ≤ den by omega)
  unfold scQ
  split <;> omega
end Go.Proofs.YtgnmjopifdekiaaDoor
