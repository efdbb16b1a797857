/-
  A number of two words divided by one word: the estimate and its two corrections (plain).
-/
import Derived.Test.YtgnmjopifdekiaaDoorPs
namespace Go.Proofs.YtgnmjopifdekiaaDoor
set_option linter.unusedVariables false
set_option linter.unusedSimpArgs false

/-- the state of a correction: q isn't below the true figure, what is left is r -/
structure DivS (u v y1 y0 q r : Int) : Prop where
  e : q * y1 + r = u
  r0 : 0 ≤ r
  q0 : 0 ≤ q
  hi : (u * 4294967296 + v) / (y1 * 4294967296 + y0) ≤ q
def DivP (u v y1 y0 : Int) : Prop := 2147483648 ≤ y1 ∧ y1 < 4294967296 ∧ 0 ≤ y0 ∧ y0 < 4294967296 ∧ 0 ≤ u ∧ u < y1 * 4294967296 + y0 ∧ 0 ≤ v ∧ v < 4294967296
theorem lt_or_geI (a b : Int) : a < b ∨ b ≤ a := by omega
section
variable {u v y1 y0 q r : Int}
theorem div_left (h : q * y1 + r = u) : u * 4294967296 + v - q * (y1 * 4294967296 + y0) = r * 4294967296 + v - q * y0 := by
  rw [← h, Int.mul_add, Int.add_mul, ← Int.mul_assoc]
  omega
theorem le_div {p d q : Int} (hd : 0 < d) : q ≤ p / d ↔ q * d ≤ p := Int.le_ediv_iff_mul_le hd
theorem div_start (h : DivP u v y1 y0) : DivS u v y1 y0 (u / y1) (u % y1) ∧ u / y1 ≤ 4294967297 ∧ u % y1 < y1 := by
  obtain ⟨a0, a1, b0, b1, u0, u1, v0, v1⟩ := h
  have e := Int.ediv_mul_add_emod u y1
  have r0 := Int.emod_nonneg u (show y1 ≠ 0 by omega)
  have r1 := Int.emod_lt_of_pos u (show 0 < y1 by omega)
  have q0 := Int.ediv_nonneg u0 (show 0 ≤ y1 by omega)
  refine ⟨⟨e, r0, q0, ?_⟩, ?_, r1⟩
  · -- the true figure isn't above the estimate
    rcases lt_or_geI (u / y1) ((u * 4294967296 + v) / (y1 * 4294967296 + y0)) with hlt | hge
    · exfalso
      have h1 : (u / y1 + 1) * (y1 * 4294967296 + y0) ≤ u * 4294967296 + v := (le_div (by omega)).1 hlt
      have h2 : (u / y1 + 1) * y1 = u / y1 * y1 + y1 := by rw [Int.add_mul, Int.one_mul]
      have h3 : (u / y1 + 1) * (y1 * 4294967296 + y0) = (u / y1 + 1) * y1 * 4294967296 + (u / y1 + 1) * y0 := by rw [Int.mul_add, ← Int.mul_assoc]
      have h4 : 0 ≤ (u / y1 + 1) * y0 := Int.mul_nonneg (by omega) b0
      omega
    · exact hge
  · rcases lt_or_geI 4294967297 (u / y1) with hlt | hge
    · exfalso
      have h1 : 4294967298 * y1 ≤ u / y1 * y1 := Int.mul_le_mul_of_nonneg_right (by omega) (by omega)
      omega
    · exact hge
theorem div_lt32 (h : DivP u v y1 y0) : (u * 4294967296 + v) / (y1 * 4294967296 + y0) < 4294967296 := by
  obtain ⟨a0, a1, b0, b1, u0, u1, v0, v1⟩ := h
  rcases lt_or_geI ((u * 4294967296 + v) / (y1 * 4294967296 + y0)) 4294967296 with hlt | hge
  · exact hlt
  · exfalso
    have h1 := (le_div (show 0 < y1 * 4294967296 + y0 by omega)).1 hge
    omega
/-- no more to correct -/
theorem div_done (h : DivP u v y1 y0) (s : DivS u v y1 y0 q r) (ht : q * y0 ≤ 4294967296 * r + v) : q = (u * 4294967296 + v) / (y1 * 4294967296 + y0) := by
  obtain ⟨a0, a1, b0, b1, u0, u1, v0, v1⟩ := h
  obtain ⟨e, r0, q0, hi⟩ := s
  have hl := div_left (v := v) (y0 := y0) e
  have h1 : q ≤ (u * 4294967296 + v) / (y1 * 4294967296 + y0) := (le_div (by omega)).2 (by omega)
  omega
theorem div_done2 (h : DivP u v y1 y0) (s : DivS u v y1 y0 q r) (hr : 4294967296 ≤ r) (hq : q ≤ 4294967296) : q = (u * 4294967296 + v) / (y1 * 4294967296 + y0) := by
  refine div_done h s ?_
  obtain ⟨a0, a1, b0, b1, u0, u1, v0, v1⟩ := h
  have h1 : q * y0 ≤ 4294967296 * y0 := Int.mul_le_mul_of_nonneg_right hq b0
  omega
theorem div_next (h : DivP u v y1 y0) (s : DivS u v y1 y0 q r) (ht : 4294967296 ≤ q ∨ 4294967296 * r + v < q * y0) : DivS u v y1 y0 (q - 1) (r + y1) := by
  have hlt := div_lt32 h
  obtain ⟨a0, a1, b0, b1, u0, u1, v0, v1⟩ := h
  obtain ⟨e, r0, q0, hi⟩ := s
  have hl := div_left (v := v) (y0 := y0) e
  have hq : (u * 4294967296 + v) / (y1 * 4294967296 + y0) ≤ q - 1 := by
    rcases ht with ht | ht
    · omega
    · rcases lt_or_geI ((u * 4294967296 + v) / (y1 * 4294967296 + y0)) q with hlt | hge
      · omega
      · exfalso
        have := (le_div (show 0 < y1 * 4294967296 + y0 by omega)).1 hge
        omega
  have hn : 0 ≤ (u * 4294967296 + v) / (y1 * 4294967296 + y0) := Int.ediv_nonneg (by omega) (by omega)
  refine ⟨?_, by omega, by omega, hq⟩
  rw [Int.sub_mul, Int.one_mul]
  omega
theorem div_rest (h : DivP u v y1 y0) (hq : q = (u * 4294967296 + v) / (y1 * 4294967296 + y0)) : u * 4294967296 + v - q * (y1 * 4294967296 + y0) = (u * 4294967296 + v) % (y1 * 4294967296 + y0) ∧ 0 ≤ (u * 4294967296 + v) % (y1 * 4294967296 + y0) ∧ (u * 4294967296 + v) % (y1 * 4294967296 + y0) < y1 * 4294967296 + y0 := by
  obtain ⟨a0, a1, b0, b1, u0, u1, v0, v1⟩ := h
  have e := Int.ediv_mul_add_emod (u * 4294967296 + v) (y1 * 4294967296 + y0)
  rw [← hq] at e
  refine ⟨by omega, Int.emod_nonneg _ (by omega), Int.emod_lt_of_pos _ (by omega)⟩
end
/-- both figures -/
theorem div_both {X y u1 v q1 q0 r1 r0 : Int} (h1 : u1 * 4294967296 + v = q1 * y + r1) (hX : X = (u1 * 4294967296 + v) * 4294967296 + q0) {q2 : Int} (h2 : r1 * 4294967296 + q0 = q2 * y + r0) (a : 0 ≤ r0) (b : r0 < y) : X / y = q1 * 4294967296 + q2 ∧ X % y = r0 := by
  refine div_of (q := q1 * 4294967296 + q2) ?_ a b
  rw [hX, h1, Int.mul_add, Int.add_mul, ← Int.mul_assoc, Int.mul_comm y q1, Int.mul_comm y q2]
  omega
end Go.Proofs.YtgnmjopifdekiaaDoor
