/-
  Money: division bit by bit (plain).
-/
import Derived.Test.YtgnmjopifdekiaaDoorPs
import Derived.Lib.RabinKarpLaws
namespace Go.Proofs.YtgnmjopifdekiaaDoor
set_option linter.unusedVariables false
set_option linter.unusedSimpArgs false

/-- x times num, divided by den -/
def Dv (x num den q r : Int) : Prop := x * num / den = q ∧ x * num % den = r ∧ 0 ≤ q ∧ 0 ≤ r ∧ r < den
theorem Dv.mk' {x num den : Int} (hx : 0 ≤ x) (hn : 0 ≤ num) (hd : 0 < den) : Dv x num den (x * num / den) (x * num % den) :=
  ⟨rfl, rfl, Int.ediv_nonneg (Int.mul_nonneg hx hn) (by omega), Int.emod_nonneg _ (by omega), Int.emod_lt_of_pos _ hd⟩
theorem dv_twice {x num den q r : Int} (hd : 0 < den) (h : Dv x num den q r) :
    (den ≤ 2 * r → Dv (2 * x) num den (2 * q + 1) (2 * r - den)) ∧ (2 * r < den → Dv (2 * x) num den (2 * q) (2 * r)) := by
  obtain ⟨h1, h2, q0, r0, r1⟩ := h
  obtain ⟨e1, e2⟩ := div_twice (x * num) den hd
  rw [h1, h2] at e1
  rw [h2] at e2
  unfold Dv
  rw [Int.mul_assoc, e1, e2]
  constructor
  · intro hA
    rw [if_pos hA, if_pos hA]
    omega
  · intro hA
    rw [if_neg (by omega), if_neg (by omega)]
    omega
theorem dv_more {x num den q r : Int} (hn : 0 ≤ num) (hd : 0 < den) (h : Dv x num den q r) :
    (den ≤ r + num % den → Dv (x + 1) num den (q + num / den + 1) (r + num % den - den)) ∧ (r + num % den < den → Dv (x + 1) num den (q + num / den) (r + num % den)) := by
  obtain ⟨h1, h2, q0, r0, r1⟩ := h
  obtain ⟨e1, e2⟩ := div_more (x * num) num den hd
  rw [h1, h2] at e1
  rw [h2] at e2
  have := Int.ediv_nonneg hn (show 0 ≤ den by omega)
  have := Int.emod_nonneg num (show den ≠ 0 by omega)
  have := Int.emod_lt_of_pos num hd
  unfold Dv
  rw [Int.add_mul, Int.one_mul, e1, e2]
  constructor
  · intro hA
    rw [if_pos hA, if_pos hA]
    omega
  · intro hA
    rw [if_neg (by omega), if_neg (by omega)]
    omega
theorem dv_over {x n num den q r : Int} (hn : 0 ≤ num) (hd : 0 < den) (hx : x ≤ n) (h : Dv x num den q r) : q ≤ n * num / den := by
  rw [← h.1]
  exact Int.ediv_le_ediv hd (Int.mul_le_mul_of_nonneg_right hx hn)
theorem num_over {n num den : Int} (hn : 0 ≤ num) (hd : 0 < den) (h1 : 1 ≤ n) : num / den ≤ n * num / den := by
  have := Int.mul_le_mul_of_nonneg_right h1 hn
  rw [Int.one_mul] at this
  exact Int.ediv_le_ediv hd this
theorem half_step (n : Int) (j : Nat) : n / 2 ^ j = 2 * (n / 2 ^ (j + 1)) + n / 2 ^ j % 2 := by
  have h : n / 2 ^ (j + 1) = n / 2 ^ j / 2 := by
    rw [Int.pow_succ]
    exact (Int.ediv_ediv_of_nonneg (Int.le_of_lt (Int.pow_pos (by omega)))).symm
  omega
theorem div_pow_le {n : Int} (h : 0 ≤ n) (j : Nat) : 0 ≤ n / 2 ^ j ∧ n / 2 ^ j ≤ n := ⟨Int.ediv_nonneg h (Int.le_of_lt (Int.pow_pos (by omega))), Int.ediv_le_self _ h⟩
theorem and1 (x : Int) (h0 : 0 ≤ x) (h1 : x < 9223372036854775808) : bits .and .i64 x 1 = x % 2 := by
  obtain ⟨k, rfl⟩ := Int.eq_ofNat_of_zero_le h0
  rw [Go.Proofs.and_one k (by omega)]
  omega
end Go.Proofs.YtgnmjopifdekiaaDoor
