/-
  Money: plain laws of fractions.
-/
import Derived.Lib.Hide
namespace Go.Proofs.YtgnmjopifdekiaaDoor
set_option linter.unusedVariables false
set_option linter.unusedSimpArgs false

def cmpZ (p q : Int) : Int := if p < q then -1 else if q < p then 1 else 0
theorem cmpZ_lt {p q : Int} (h : p < q) : cmpZ p q = -1 := by unfold cmpZ; rw [if_pos h]
theorem cmpZ_gt {p q : Int} (h : q < p) : cmpZ p q = 1 := by unfold cmpZ; rw [if_neg (by omega), if_pos h]
theorem cmpZ_eq {p q : Int} (h : p = q) : cmpZ p q = 0 := by unfold cmpZ; rw [if_neg (by omega), if_neg (by omega)]
theorem cmpZ_cases (p q : Int) : (p < q ∧ cmpZ p q = -1) ∨ (q < p ∧ cmpZ p q = 1) ∨ (p = q ∧ cmpZ p q = 0) := by
  rcases Int.lt_trichotomy p q with h | h | h
  · exact .inl ⟨h, cmpZ_lt h⟩
  · exact .inr (.inr ⟨h, cmpZ_eq h⟩)
  · exact .inr (.inl ⟨h, cmpZ_gt h⟩)
theorem cmpZ_swap (p q : Int) : cmpZ q p = -cmpZ p q := by
  rcases cmpZ_cases p q with ⟨h, e⟩ | ⟨h, e⟩ | ⟨h, e⟩
  · rw [e, cmpZ_gt h]; rfl
  · rw [e, cmpZ_lt h]
  · rw [e, cmpZ_eq h.symm]; rfl
theorem cmpZ_iff {p q p' q' : Int} (h1 : p < q ↔ p' < q') (h2 : q < p ↔ q' < p') : cmpZ p q = cmpZ p' q' := by
  unfold cmpZ
  by_cases a : p < q
  · rw [if_pos a, if_pos (h1.1 a)]
  · rw [if_neg a, if_neg (fun h => a (h1.2 h))]
    by_cases b : q < p
    · rw [if_pos b, if_pos (h2.1 b)]
    · rw [if_neg b, if_neg (fun h => b (h2.2 h))]
/-- a fraction against another one -/
def cmpF (n d m e : Int) : Int := cmpZ (n * e) (m * d)
theorem cmpF_swap (n d m e : Int) : cmpF m e n d = -cmpF n d m e := cmpZ_swap _ _
/-- by the high and the low half -/
theorem cmpZ_halves (p q : Int) :
    (if cmpZ (p / 18446744073709551616) (q / 18446744073709551616) ≠ 0 then cmpZ (p / 18446744073709551616) (q / 18446744073709551616) else cmpZ (p % 18446744073709551616) (q % 18446744073709551616)) = cmpZ p q := by
  rcases cmpZ_cases (p / 18446744073709551616) (q / 18446744073709551616) with ⟨h, e⟩ | ⟨h, e⟩ | ⟨h, e⟩
  · rw [e, if_pos (by decide), cmpZ_lt (by omega)]
  · rw [e, if_pos (by decide), cmpZ_gt (by omega)]
  · rw [e, if_neg (by decide)]
    exact cmpZ_iff (by omega) (by omega)
theorem mul_lt_iff {a b c : Int} (h : 0 < c) : a < b ↔ a * c < b * c := ⟨fun g => Int.mul_lt_mul_of_pos_right g h, fun g => Int.lt_of_mul_lt_mul_right g (Int.le_of_lt h)⟩
theorem mul_le_iff {a b c : Int} (h : 0 < c) : a ≤ b ↔ a * c ≤ b * c := ⟨fun g => Int.mul_le_mul_of_nonneg_right g (Int.le_of_lt h), fun g => Int.le_of_mul_le_mul_right g h⟩
/-- what isn't above what isn't above a third one -/
theorem cmpF_trans {n d m e k f : Int} (hd : 0 < d) (he : 0 < e) (hf : 0 < f) (h1 : n * e ≤ m * d) (h2 : m * f ≤ k * e) : n * f ≤ k * d ∧ (n * f = k * d → n * e = m * d ∧ m * f = k * e) := by
  have a1 : n * e * f ≤ m * d * f := (mul_le_iff hf).1 h1
  have a2 : m * f * d ≤ k * e * d := (mul_le_iff hd).1 h2
  have e1 : n * e * f = n * f * e := by rw [Int.mul_assoc, Int.mul_comm e f, ← Int.mul_assoc]
  have e2 : m * d * f = m * f * d := by rw [Int.mul_assoc, Int.mul_comm d f, ← Int.mul_assoc]
  have e3 : k * e * d = k * d * e := by rw [Int.mul_assoc, Int.mul_comm e d, ← Int.mul_assoc]
  refine ⟨(mul_le_iff he).2 (by omega), fun h => ?_⟩
  have h' : n * f * e = k * d * e := by rw [h]
  constructor
  · have b : m * d * f ≤ n * e * f := by omega
    have := (mul_le_iff hf).2 b
    omega
  · have b : k * e * d ≤ m * f * d := by omega
    have := (mul_le_iff hd).2 b
    omega
theorem orders {n d m e k f : Int} (hd : 0 < d) (he : 0 < e) (hf : 0 < f) (hx : cmpF n d m e ≤ 0) (hy : cmpF m e k f ≤ 0) : cmpF n d k f ≤ 0 ∧ (cmpF n d k f = 0 → cmpF n d m e = 0 ∧ cmpF m e k f = 0) := by
  unfold cmpF at *
  have h1 : n * e ≤ m * d := by rcases cmpZ_cases (n * e) (m * d) with ⟨h, e⟩ | ⟨h, e⟩ | ⟨h, e⟩ <;> omega
  have h2 : m * f ≤ k * e := by rcases cmpZ_cases (m * f) (k * e) with ⟨h, e⟩ | ⟨h, e⟩ | ⟨h, e⟩ <;> omega
  obtain ⟨a, b⟩ := cmpF_trans hd he hf h1 h2
  rcases cmpZ_cases (n * f) (k * d) with ⟨h, e⟩ | ⟨h, e⟩ | ⟨h, e⟩
  · rw [e]; exact ⟨by decide, fun h => by cases h⟩
  · omega
  · rw [e]
    exact ⟨by decide, fun _ => ⟨cmpZ_eq (b h).1, cmpZ_eq (b h).2⟩⟩
/-! ### by whole parts, turned over -/
theorem whole_lt {n d m e : Int} (hd : 0 < d) (he : 0 < e) (h : n / d < m / e) : cmpF n d m e = -1 := by
  refine cmpZ_lt ?_
  have a : n < (n / d + 1) * d := by
    have := Int.lt_ediv_add_one_mul_self n hd
    exact this
  have b : m / e * e ≤ m := Int.ediv_mul_le m (by omega)
  have c : n * e < (n / d + 1) * d * e := (mul_lt_iff he).1 a
  have f : m / e * e * d ≤ m * d := (mul_le_iff hd).1 b
  have g : (n / d + 1) * d * e ≤ m / e * e * d := by
    have h1 : (n / d + 1) * (d * e) ≤ m / e * (d * e) := Int.mul_le_mul_of_nonneg_right (by omega) (Int.mul_nonneg (by omega) (by omega))
    rw [Int.mul_assoc, Int.mul_assoc, Int.mul_comm e d]
    exact h1
  omega
theorem whole_gt {n d m e : Int} (hd : 0 < d) (he : 0 < e) (h : m / e < n / d) : cmpF n d m e = 1 := by
  rw [cmpF_swap m e n d, whole_lt he hd h]; rfl
theorem whole_eq {n d m e : Int} (h : n / d = m / e) : cmpF n d m e = cmpZ ((n % d) * e) ((m % e) * d) := by
  unfold cmpF
  have a : n = d * (n / d) + n % d := (Int.mul_ediv_add_emod n d).symm
  have b : m = e * (m / e) + m % e := (Int.mul_ediv_add_emod m e).symm
  rw [h] at a
  have e1 : n * e = e * (d * (m / e)) + n % d * e := by
    rw [a, Int.add_mul]
    congr 1
    · rw [Int.mul_comm]
    · rw [← a]
  have e2 : m * d = e * (d * (m / e)) + m % e * d := by
    have : m * d = (e * (m / e) + m % e) * d := by rw [← b]
    rw [this, Int.add_mul]
    congr 1
    rw [Int.mul_comm, ← Int.mul_assoc, Int.mul_comm d e, Int.mul_assoc]
  rw [e1, e2]
  exact cmpZ_iff (by omega) (by omega)
theorem turned {d x e y : Int} : cmpZ (x * e) (y * d) = -cmpF d x e y := by
  unfold cmpF
  rw [← cmpZ_swap, Int.mul_comm e x, Int.mul_comm d y]
end Go.Proofs.YtgnmjopifdekiaaDoor
