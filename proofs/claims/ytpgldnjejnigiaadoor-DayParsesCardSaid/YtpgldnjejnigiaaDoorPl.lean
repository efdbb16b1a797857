/-
  Days: plain laws of walking and counting.
-/
import Derived.Lib.Hide
namespace Go.Proofs.YtpgldnjejnigiaaDoor

def isD (d : Int) : Bool := decide (0 ≤ d) && decide (d ≤ 1048576)
theorem isD_iff {d : Int} : isD d = true ↔ 0 ≤ d ∧ d ≤ 1048576 := by unfold isD; simp
/-- is it among them -/
def hasI (l : List Int) (x : Int) : Bool := l.contains x
/-- the n-th day that is worked on, from d on by steps -/
def alF (r : Int → Bool) (step : Int) : Nat → Int → Int → Int × Bool
  | 0, _, _ => (0, false)
  | k + 1, d, n => if isD d then (if (if r d then n else n - 1) > 0 then alF r step k (d + step) (if r d then n else n - 1) else (d, true)) else (0, false)
/-- the same, as the reference goes -/
def wlF (r : Int → Bool) (step : Int) : Nat → Int → Int → Int × Bool
  | 0, _, _ => (0, false)
  | k + 1, d, n => if isD d then (if r d then wlF r step k (d + step) n else if n - 1 = 0 then (d, true) else wlF r step k (d + step) (n - 1)) else (0, false)
theorem wl_al (r : Int → Bool) (step : Int) : ∀ (k : Nat) (d n : Int), 1 ≤ n → wlF r step k d n = alF r step k d n
  | 0, _, _, _ => rfl
  | k + 1, d, n, h => by
    rw [wlF, alF]
    cases isD d with
    | false => rfl
    | true =>
      cases r d with
      | true =>
        simp only [if_true]
        rw [if_pos (by omega), wl_al r step k _ _ h]
      | false =>
        simp only [if_true, Bool.false_eq_true, if_false]
        by_cases h1 : n - 1 = 0
        · rw [if_pos h1, if_neg (by omega)]
        · rw [if_neg h1, if_pos (by omega), wl_al r step k _ _ (by omega)]
theorem al_all (r : Int → Bool) (step : Int) (hr : ∀ d, isD d = true → r d = true) : ∀ (k : Nat) (d n : Int), 1 ≤ n → alF r step k d n = (0, false)
  | 0, _, _, _ => rfl
  | k + 1, d, n, h => by
    rw [alF]
    cases hd : isD d with
    | false => rfl
    | true =>
      rw [hr d hd]
      simp only [if_true]
      rw [if_pos (by omega), al_all r step hr k _ _ h]
theorem al_zero (r : Int → Bool) (step : Int) : ∀ (k : Nat) (d n : Int), (alF r step k d n).2 = false → (alF r step k d n).1 = 0
  | 0, _, _, _ => rfl
  | k + 1, d, n, h => by
    rw [alF] at h ⊢
    cases hd : isD d with
    | false => rfl
    | true =>
      rw [hd] at h
      simp only [if_true] at h ⊢
      by_cases hn : (if r d = true then n else n - 1) > 0
      · rw [if_pos hn] at h ⊢
        exact al_zero r step k _ _ h
      · rw [if_neg hn] at h
        cases h

/-- how many of the days ahead of x are worked on -/
def wk (r : Int → Bool) : Nat → Nat
  | 0 => 0
  | x + 1 => wk r x + if r x then 0 else 1
def wkI (r : Int → Bool) (x : Int) : Nat := wk r x.toNat
theorem wkI_succ (r : Int → Bool) {d : Int} (h : 0 ≤ d) : wkI r (d + 1) = wkI r d + if r d then 0 else 1 := by
  obtain ⟨n, rfl⟩ := Int.eq_ofNat_of_zero_le h
  unfold wkI
  rw [show ((n : Int) + 1).toNat = n + 1 by omega, wk, Int.toNat_natCast]
theorem wk_mono (r : Int → Bool) {a b : Nat} (h : a ≤ b) : wk r a ≤ wk r b := by
  induction h with
  | refl => exact Nat.le_refl _
  | step _ ih => exact Nat.le_trans ih (by rw [wk]; omega)
theorem wkI_mono (r : Int → Bool) {a b : Int} (h : a ≤ b) : wkI r a ≤ wkI r b := wk_mono r (by omega)
theorem al_up (r : Int → Bool) : ∀ (k : Nat) (d n : Int) (t : Int), 1 ≤ n → alF r 1 k d n = (t, true) → d ≤ t ∧ isD t = true ∧ r t = false ∧ isD d = true ∧ (wkI r (t + 1) : Int) = wkI r d + n
  | 0, _, _, _, _, h => by rw [alF] at h; cases h
  | k + 1, d, n, t, hn, h => by
    rw [alF] at h
    cases hd : isD d with
    | false => rw [hd] at h; cases h
    | true =>
      rw [hd] at h
      simp only [if_true] at h
      have h0 := (isD_iff.1 hd).1
      have hs := wkI_succ r h0
      cases hr : r d with
      | true =>
        rw [hr] at h hs
        simp only [if_true] at h hs
        rw [if_pos (by omega)] at h
        obtain ⟨a, b, c, -, e⟩ := al_up r k _ _ t hn h
        exact ⟨by omega, b, c, rfl, by rw [hs] at e; omega⟩
      | false =>
        rw [hr] at h hs
        simp only [Bool.false_eq_true, if_false] at h hs
        by_cases h1 : n - 1 > 0
        · rw [if_pos h1] at h
          obtain ⟨a, b, c, -, e⟩ := al_up r k _ _ t (by omega) h
          exact ⟨by omega, b, c, rfl, by rw [hs] at e; omega⟩
        · rw [if_neg h1] at h
          injection h with h _
          subst h
          exact ⟨Int.le_refl _, hd, hr, rfl, by rw [hs]; omega⟩
theorem al_down (r : Int → Bool) (d : Int) (hd : isD d = true) (hr : r d = false) : ∀ (j k : Nat) (n : Int), j < k → isD (d + j) = true → 1 ≤ n → (wkI r (d + j + 1) : Int) = wkI r d + n → alF r (-1) k (d + j) n = (d, true)
  | _, 0, _, h, _, _, _ => absurd h (by omega)
  | 0, k + 1, n, _, hi, hn, hw => by
    have h0 := (isD_iff.1 hd).1
    have hs := wkI_succ r h0
    rw [hr] at hs
    simp only [Int.natCast_zero, Int.add_zero, Bool.false_eq_true, if_false] at hs hw hi ⊢
    rw [alF, hd, hr]
    simp only [if_true, Bool.false_eq_true, if_false]
    rw [if_neg (by omega)]
  | j + 1, k + 1, n, hk, hi, hn, hw => by
    have h0 := (isD_iff.1 hd).1
    have hs := wkI_succ r (d := d + (j + 1 : Nat)) (by omega)
    have hs0 := wkI_succ r h0
    rw [hr] at hs0
    simp only [Bool.false_eq_true, if_false] at hs0
    have hm := wkI_mono r (a := d + 1) (b := d + (j + 1 : Nat)) (by omega)
    have hi' : isD (d + j) = true := by
      have := isD_iff.1 hi
      exact isD_iff.2 (by omega)
    have e1 : d + ((j + 1 : Nat) : Int) + -1 = d + j := by omega
    have e2 : d + ((j + 1 : Nat) : Int) = d + j + 1 := by omega
    rw [alF, hi, e1]
    cases hq : r (d + (j + 1 : Nat)) with
    | true =>
      rw [hq] at hs
      simp only [if_true] at hs ⊢
      rw [if_pos (by omega)]
      exact al_down r d hd hr j k n (by omega) hi' hn (by rw [e2] at hs hw; omega)
    | false =>
      rw [hq] at hs
      simp only [if_true, Bool.false_eq_true, if_false] at hs ⊢
      rw [if_pos (by omega)]
      exact al_down r d hd hr j k (n - 1) (by omega) hi' (by omega) (by rw [e2] at hs hw; omega)

/-! ### counting -/
theorem filt_succ (q : Int → Bool) (m : Int) : ∀ l : List Int, l.Nodup → (l.filter fun h => decide (h < m + 1) && q h).length = (l.filter fun h => decide (h < m) && q h).length + if hasI l m && q m then 1 else 0
  | [], _ => rfl
  | x :: l, hn => by
    rw [List.nodup_cons] at hn
    have ih := filt_succ q m l hn.2
    have hc : hasI (x :: l) m = (decide (m = x) || hasI l m) := by
      unfold hasI; rw [List.contains_cons]; rfl
    rw [List.filter_cons, List.filter_cons, hc]
    by_cases hx : m = x
    · subst hx
      have h0 : hasI l m = false := by
        unfold hasI
        rw [← Bool.not_eq_true, List.contains_iff_mem]
        exact hn.1
      rw [h0] at ih
      have e1 : decide (m < m + 1) = true := by simp; omega
      have e2 : decide (m < m) = false := by simp
      rw [e1, e2, Bool.true_and, Bool.false_and, decide_eq_true (rfl : m = m), Bool.true_or, Bool.true_and]
      cases hq : q m with
      | true => simp only [if_true, List.length_cons, Bool.false_eq_true, if_false, Bool.false_and] at ih ⊢; omega
      | false => simp only [Bool.false_eq_true, if_false, Bool.false_and] at ih ⊢; omega
    · have h1 : decide (x < m + 1) = decide (x < m) := by rw [decide_eq_decide]; omega
      rw [h1]
      simp only [hx, decide_false, Bool.false_or]
      by_cases h2 : (decide (x < m) && q x) = true
      · rw [if_pos h2, if_pos h2, List.length_cons, List.length_cons, ih]; omega
      · rw [if_neg h2, if_neg h2, ih]
theorem filt_none (q : Int → Bool) (m : Int) (l : List Int) (h : ∀ x ∈ l, m ≤ x) : (l.filter fun h => decide (h < m) && q h).length = 0 := by
  rw [List.length_eq_zero_iff, List.filter_eq_nil_iff]
  intro x hx
  have := h x hx
  simp; intro; omega
theorem wk_filt (l : List Int) (hn : l.Nodup) (h0 : ∀ x ∈ l, 0 ≤ x) : ∀ m : Nat, wk (hasI l) m + (l.filter fun h => decide (h < (m : Int)) && true).length = m
  | 0 => by
    have h := filt_none (fun _ => true) ((0 : Nat) : Int) l h0
    rw [wk, h]
  | m + 1 => by
    have ih := wk_filt l hn h0 m
    have hs := filt_succ (fun _ => true) m l hn
    rw [wk, show ((m + 1 : Nat) : Int) = (m : Int) + 1 by omega, hs]
    cases hasI l m <;> simp at ih ⊢ <;> omega
theorem wk_week (l : List Int) (hn : l.Nodup) (h0 : ∀ x ∈ l, 0 ≤ x ∧ x < 7) : wk (hasI l) 7 + l.length = 7 := by
  have h := wk_filt l hn (fun x hx => (h0 x hx).1) 7
  rw [show (l.filter fun h => decide (h < ((7 : Nat) : Int)) && true) = l from List.filter_eq_self.2 (fun x hx => by have := (h0 x hx).2; simp; omega)] at h
  exact h
/-- what is counted ahead of a day: by weeks, the weekdays left, and without the holidays -/
def ahZ (rest hol : List Int) (x : Int) : Int := x / 7 * (7 - rest.length) + wk (hasI rest) (x % 7).toNat - (hol.filter fun h => decide (h < x) && !hasI rest (h % 7)).length
theorem ah_wk (rest hol : List Int) (hr : rest.Nodup) (hr7 : ∀ x ∈ rest, 0 ≤ x ∧ x < 7) (hh : hol.Nodup) (hh0 : ∀ x ∈ hol, 0 ≤ x) :
    ∀ x : Nat, ahZ rest hol x = wk (fun d => hasI rest (d % 7) || hasI hol d) x
  | 0 => by
    have h := filt_none (fun h => !hasI rest (h % 7)) ((0 : Nat) : Int) hol hh0
    unfold ahZ
    rw [h]
    simp [wk]
  | x + 1 => by
    have ih := ah_wk rest hol hr hr7 hh hh0 x
    have hw := wk_week rest hr hr7
    have hs := filt_succ (fun h => !hasI rest (h % 7)) x hol hh
    unfold ahZ at ih ⊢
    rw [wk, show ((x + 1 : Nat) : Int) = (x : Int) + 1 by omega, hs]
    have hg : wk (hasI rest) (((x : Int) % 7).toNat + 1) = wk (hasI rest) ((x : Int) % 7).toNat + if hasI rest ((x : Int) % 7) then 0 else 1 := by
      rw [wk, Int.toNat_of_nonneg (by omega)]
    generalize (hol.filter fun h => decide (h < (x : Int) + 1) && !hasI rest (h % 7)).length = F1 at *
    generalize (hol.filter fun h => decide (h < (x : Int)) && !hasI rest (h % 7)).length = F0 at *
    generalize wk (fun d => hasI rest (d % 7) || hasI hol d) x = G0 at *
    by_cases h6 : (x : Int) % 7 = 6
    · have e1 : ((x : Int) + 1) / 7 = x / 7 + 1 := by omega
      have e2 : (((x : Int) + 1) % 7).toNat = 0 := by omega
      rw [e1, e2, Int.add_mul]
      rw [h6] at ih hg hs ⊢
      have e3 : ((6 : Int)).toNat = 6 := rfl
      rw [e3] at ih hg
      have e0 : wk (hasI rest) 0 = 0 := rfl
      rw [e0]
      generalize (x : Int) / 7 * (7 - (rest.length : Int)) = M at *
      generalize hasI rest 6 = u at *
      generalize hasI hol x = v at *
      cases u <;> cases v <;> simp at hg hs ih ⊢ <;> omega
    · have e1 : ((x : Int) + 1) / 7 = x / 7 := by omega
      have e2 : (((x : Int) + 1) % 7).toNat = ((x : Int) % 7).toNat + 1 := by omega
      rw [e1, e2, hg]
      generalize (x : Int) / 7 * (7 - (rest.length : Int)) = M at *
      generalize wk (hasI rest) ((x : Int) % 7).toNat = U at *
      generalize hasI rest ((x : Int) % 7) = u at *
      generalize hasI hol x = v at *
      cases u <;> cases v <;> simp at hs ih ⊢ <;> omega
end Go.Proofs.YtpgldnjejnigiaaDoor
