/-
  Money: the greatest number that divides both (plain).
-/
import Derived.Test.YtgnmjopifdekiaaDoorPc
namespace Go.Proofs.YtgnmjopifdekiaaDoor
set_option linter.unusedVariables false
set_option linter.unusedSimpArgs false

/-- the greatest number that divides both -/
def gcdZ (n d : Int) : Int := (Nat.gcd n.toNat d.toNat : Nat)
theorem gcd_step (a b : Nat) : Nat.gcd b (a % b) = Nat.gcd a b := by rw [Nat.gcd_comm a b, Nat.gcd_rec b a, Nat.gcd_comm]
theorem gcd_facts {n d : Int} (hn : 0 ≤ n) (hd : 1 ≤ d) : 1 ≤ gcdZ n d ∧ gcdZ n d ≤ d ∧ n / gcdZ n d * gcdZ n d = n ∧ d / gcdZ n d * gcdZ n d = d ∧ 0 ≤ n / gcdZ n d ∧ 1 ≤ d / gcdZ n d := by
  obtain ⟨a, rfl⟩ := Int.eq_ofNat_of_zero_le hn
  obtain ⟨b, rfl⟩ := Int.eq_ofNat_of_zero_le (show 0 ≤ d by omega)
  have hb : 0 < b := by omega
  unfold gcdZ
  rw [Int.toNat_natCast, Int.toNat_natCast]
  have g0 : 0 < Nat.gcd a b := Nat.gcd_pos_of_pos_right a hb
  have g1 : Nat.gcd a b ≤ b := Nat.gcd_le_right a hb
  have e1 : a / Nat.gcd a b * Nat.gcd a b = a := Nat.div_mul_cancel (Nat.gcd_dvd_left a b)
  have e2 : b / Nat.gcd a b * Nat.gcd a b = b := Nat.div_mul_cancel (Nat.gcd_dvd_right a b)
  have h1 : 0 < b / Nat.gcd a b := Nat.div_pos g1 g0
  generalize Nat.gcd a b = g at *
  refine ⟨by omega, by omega, ?_, ?_, ?_, ?_⟩
  · rw [← Int.natCast_ediv]; exact_mod_cast e1
  · rw [← Int.natCast_ediv]; exact_mod_cast e2
  · rw [← Int.natCast_ediv]; exact Int.natCast_nonneg _
  · rw [← Int.natCast_ediv]; omega
/-- reduced it stays as much -/
theorem cmpF_reduced {n d m e : Int} (hn : 0 ≤ n) (hd : 1 ≤ d) : cmpF (n / gcdZ n d) (d / gcdZ n d) m e = cmpF n d m e := by
  obtain ⟨g0, -, e1, e2, -, -⟩ := gcd_facts hn hd
  generalize gcdZ n d = g at *
  generalize hx : n / g = x at *
  generalize hy : d / g = y at *
  subst e1 e2
  unfold cmpF
  have a1 : x * g * e = x * e * g := by rw [Int.mul_assoc, Int.mul_comm g e, ← Int.mul_assoc]
  have a2 : m * (y * g) = m * y * g := by rw [Int.mul_assoc]
  rw [a1, a2]
  exact cmpZ_iff (mul_lt_iff (by omega)) (mul_lt_iff (by omega))
/-- one round of the comparison by whole parts -/
theorem turn_step {n d m e : Int} (hd : 0 < d) (he : 0 < e) (hw : n / d = m / e) :
    (n % d = 0 → m % e = 0 → cmpF n d m e = 0) ∧ (n % d = 0 → 0 < m % e → cmpF n d m e = -1) ∧ (0 < n % d → m % e = 0 → cmpF n d m e = 1) ∧ cmpF n d m e = -cmpF d (n % d) e (m % e) := by
  have h := whole_eq (n := n) (d := d) (m := m) (e := e) hw
  refine ⟨fun h1 h2 => ?_, fun h1 h2 => ?_, fun h1 h2 => ?_, ?_⟩
  · rw [h, h1, h2]; exact cmpZ_eq (by simp)
  · rw [h, h1]; exact cmpZ_lt (by rw [Int.zero_mul]; exact Int.mul_pos h2 hd)
  · rw [h, h2]; exact cmpZ_gt (by rw [Int.zero_mul]; exact Int.mul_pos h1 he)
  · rw [h]; exact turned
end Go.Proofs.YtgnmjopifdekiaaDoor
