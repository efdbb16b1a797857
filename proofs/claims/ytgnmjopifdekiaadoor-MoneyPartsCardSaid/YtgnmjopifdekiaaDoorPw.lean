/-
  Money: laws of rounding (plain).
-/
import Derived.Test.YtgnmjopifdekiaaDoorPs
namespace Go.Proofs.YtgnmjopifdekiaaDoor
set_option linter.unusedVariables false
set_option linter.unusedSimpArgs false

theorem scaleZ_no {c : ByteArray} {a num den way : Int} (h : fracB num den = false) : scaleZ c a num den way = none := by
  unfold scaleZ
  rw [if_neg]
  simp [h]
theorem scaleZ_eq {c : ByteArray} {a num den way : Int} (hm : mayM c a = true) (hf : fracB num den = true) (w0 : 0 ≤ way) (w1 : way ≤ 2) :
    scaleZ c a num den way = if scQ (absI a) num den way ≤ 1099511627776 then some (sgn a (scQ (absI a) num den way)) else none := by
  unfold scaleZ
  simp [hm, hf, w0, w1]
theorem mayM_neg {c : ByteArray} {n : Int} (hm : mayM c n = true) : mayM c (-n) = true := by
  obtain ⟨a, b, d⟩ := mayM_iff.1 hm
  exact mayM_iff.2 ⟨a, by omega, by omega⟩
/-- what the law of rounding asks -/
theorem rounds {c : ByteArray} {n num den : Int} (hm : mayM c n = true) (n0 : 0 ≤ n) :
    (scaleZ c n num den 1 = none ∧ ((scaleZ c n num den 0 = none ∧ scaleZ c n num den 2 = none) ∨ (scaleZ c n num den 0 = some 1099511627776 ∧ scaleZ c n num den 2 = none) ∨ (scaleZ c n num den 0 = some 1099511627776 ∧ scaleZ c n num den 2 = some 1099511627776))) ∨
    (∃ l h x : Int, scaleZ c n num den 1 = some h ∧ scaleZ c n num den 0 = some l ∧ scaleZ c n num den 2 = some x ∧ l ≤ h ∧ h - 1 ≤ l ∧ (x = l ∨ x = h) ∧ 0 ≤ l ∧ 0 ≤ x ∧ h ≤ 1099511627776 ∧ scaleZ c (-n) num den 0 = some (-l) ∧ scaleZ c (-n) num den 2 = some (-x)) := by
  cases hf : fracB num den with
  | false => left; rw [scaleZ_no hf, scaleZ_no hf, scaleZ_no hf]; simp
  | true =>
    have hn := mayM_neg hm
    unfold fracB at hf
    simp at hf
    obtain ⟨m0, d0⟩ := hf
    have hf : fracB num den = true := by unfold fracB; simp [m0, d0]
    have ha : absI n = n := by unfold absI; rw [if_neg (by omega)]
    have hb : absI (-n) = n := by unfold absI; split <;> omega
    have q0 := Int.ediv_nonneg (Int.mul_nonneg n0 m0) (show 0 ≤ den by omega)
    have r0 := Int.emod_nonneg (n * num) (show den ≠ 0 by omega)
    have hs : ∀ x, sgn n x = x := fun x => by unfold sgn; rw [if_neg (by omega)]
    have hz : n = 0 → n * num / den = 0 ∧ n * num % den = 0 := fun h => by rw [h, Int.zero_mul, Int.zero_ediv, Int.zero_emod]; exact ⟨rfl, rfl⟩
    have hg : ∀ x, (n = 0 → x = 0) → sgn (-n) x = -x := fun x h => by
      unfold sgn
      by_cases e : n = 0
      · rw [h e]; simp
      · rw [if_pos (by omega)]
    rw [scaleZ_eq hm hf (by omega) (by omega), scaleZ_eq hm hf (by omega) (by omega), scaleZ_eq hm hf (by omega) (by omega), scaleZ_eq hn hf (by omega) (by omega), scaleZ_eq hn hf (by omega) (by omega), ha, hb]
    have h0 : scQ n num den 0 = n * num / den := by unfold scQ upB; simp
    have h1 : scQ n num den 1 = n * num / den + if 0 < n * num % den then 1 else 0 := by unfold scQ upB; simp
    have h2 : scQ n num den 2 = n * num / den + if den - n * num % den ≤ n * num % den then 1 else 0 := by unfold scQ upB; simp
    rw [h0, h1, h2]
    simp only [hs]
    generalize n * num / den = q at *
    generalize n * num % den = r at *
    by_cases hr : 0 < r
    · rw [if_pos hr]
      by_cases hk : q + 1 ≤ 1099511627776
      · right
        rw [if_pos hk, if_pos (show q ≤ 1099511627776 by omega), if_pos (show q ≤ 1099511627776 by omega), hg q (fun h => (hz h).1)]
        by_cases hu : den - r ≤ r
        · rw [if_pos hu, if_pos hk, if_pos hk, hg (q + 1) (fun h => by have := hz h; omega)]
          exact ⟨q, q + 1, q + 1, rfl, rfl, rfl, by omega, by omega, by omega, by omega, by omega, by omega, rfl, rfl⟩
        · rw [if_neg hu, Int.add_zero, if_pos (show q ≤ 1099511627776 by omega), if_pos (show q ≤ 1099511627776 by omega), hg q (fun h => (hz h).1)]
          exact ⟨q, q + 1, q, rfl, rfl, rfl, by omega, by omega, by omega, by omega, by omega, by omega, rfl, rfl⟩
      · left
        rw [if_neg hk]
        refine ⟨rfl, ?_⟩
        by_cases hq : q ≤ 1099511627776
        · obtain rfl : q = 1099511627776 := by omega
          rw [if_pos hq]
          right
          by_cases hu : den - r ≤ r
          · left; rw [if_pos hu, if_neg (by omega)]; exact ⟨rfl, rfl⟩
          · right; rw [if_neg hu, Int.add_zero, if_pos hq]; exact ⟨rfl, rfl⟩
        · left
          rw [if_neg hq]
          refine ⟨rfl, if_neg ?_⟩
          split <;> omega
    · obtain rfl : r = 0 := by omega
      simp only [if_neg hr, if_neg (show ¬ den - 0 ≤ 0 by omega), Int.add_zero]
      by_cases hq : q ≤ 1099511627776
      · right
        rw [if_pos hq, hg q (fun h => (hz h).1), if_pos hq]
        exact ⟨q, q, q, rfl, rfl, rfl, by omega, by omega, by omega, by omega, by omega, by omega, rfl, rfl⟩
      · left
        rw [if_neg hq]
        exact ⟨rfl, .inl ⟨rfl, rfl⟩⟩
/-- a part, and what lacks to the whole -/
theorem parts_split {n num den : Int} (hd : 0 < den) :
    (n * (den - num) / den = n - n * num / den ∧ n * (den - num) % den = 0 ∧ n * num % den = 0) ∨ (n * (den - num) / den = n - n * num / den - 1 ∧ 0 < n * (den - num) % den ∧ 0 < n * num % den) := by
  have e := Int.mul_ediv_add_emod (n * num) den
  have r0 := Int.emod_nonneg (n * num) (show den ≠ 0 by omega)
  have r1 := Int.emod_lt_of_pos (n * num) hd
  have h : n * (den - num) = den * (n - n * num / den) - n * num % den := by
    rw [Int.mul_sub, Int.mul_sub, Int.mul_comm n den]
    omega
  rw [h]
  generalize n * num / den = q at *
  generalize n * num % den = r at *
  by_cases hr : r = 0
  · left
    subst hr
    have := div_of (d := den) (p := den * (n - q) - 0) (q := n - q) (r := 0) (by omega) (by omega) hd
    exact ⟨this.1, this.2, rfl⟩
  · right
    have hx : den * (n - q - 1) = den * (n - q) - den := by rw [Int.mul_sub den (n - q) 1, Int.mul_one]
    have := div_of (d := den) (p := den * (n - q) - r) (q := n - q - 1) (r := den - r) (by omega) (by omega) (by omega)
    exact ⟨this.1, by omega, by omega⟩
theorem parts {c : ByteArray} {n num den : Int} (hm : mayM c n = true) (n0 : 0 ≤ n) (m0 : 0 ≤ num) (m1 : num ≤ den) (d0 : 1 ≤ den) :
    ∃ x y u v : Int, scaleZ c n num den 0 = some x ∧ scaleZ c n (den - num) den 0 = some y ∧ scaleZ c n num den 1 = some u ∧ scaleZ c n (den - num) den 1 = some v ∧
      0 ≤ x ∧ 0 ≤ y ∧ 0 ≤ u ∧ 0 ≤ v ∧ x ≤ 1099511627776 ∧ y ≤ 1099511627776 ∧ u ≤ 1099511627776 ∧ v ≤ 1099511627776 ∧
      ((x + y = n ∧ u + v = n) ∨ (x + y = n - 1 ∧ u + v = n + 1)) := by
  have hf : fracB num den = true := by unfold fracB; simp [m0, d0]
  have hg : fracB (den - num) den = true := by unfold fracB; simp [d0]; omega
  have hn := (mayM_iff.1 hm).2.2
  have ha : absI n = n := by unfold absI; rw [if_neg (by omega)]
  have hs : ∀ x, sgn n x = x := fun x => by unfold sgn; rw [if_neg (by omega)]
  have q0 := Int.ediv_nonneg (Int.mul_nonneg n0 m0) (show 0 ≤ den by omega)
  have p0 := Int.ediv_nonneg (Int.mul_nonneg n0 (show 0 ≤ den - num by omega)) (show 0 ≤ den by omega)
  have h0 : ∀ k, scQ n k den 0 = n * k / den := fun k => by unfold scQ upB; simp
  have h1 : ∀ k, scQ n k den 1 = n * k / den + if 0 < n * k % den then 1 else 0 := fun k => by unfold scQ upB; simp
  rw [scaleZ_eq hm hf (by omega) (by omega), scaleZ_eq hm hf (by omega) (by omega), scaleZ_eq hm hg (by omega) (by omega), scaleZ_eq hm hg (by omega) (by omega), ha, h0, h0, h1, h1]
  simp only [hs]
  have hp := parts_split (n := n) (num := num) (den := den) (by omega)
  generalize n * num / den = q at *
  generalize n * num % den = r at *
  generalize n * (den - num) / den = p at *
  generalize n * (den - num) % den = s at *
  rcases hp with ⟨a, rfl, rfl⟩ | ⟨a, b, d⟩
  · simp only [Int.lt_irrefl, if_false, Int.add_zero]
    rw [if_pos (show q ≤ _ by omega), if_pos (show p ≤ _ by omega)]
    exact ⟨q, p, q, p, rfl, rfl, rfl, rfl, by omega, by omega, by omega, by omega, by omega, by omega, by omega, by omega, by omega⟩
  · rw [if_pos b, if_pos d, if_pos (show q ≤ _ by omega), if_pos (show p ≤ _ by omega), if_pos (show q + 1 ≤ _ by omega), if_pos (show p + 1 ≤ _ by omega)]
    exact ⟨q, p, q + 1, p + 1, rfl, rfl, rfl, rfl, by omega, by omega, by omega, by omega, by omega, by omega, by omega, by omega, by omega⟩
end Go.Proofs.YtgnmjopifdekiaaDoor
