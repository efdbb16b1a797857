/-
  Days: plain laws of months.
-/
import Derived.Test.YtpgldnjejnigiaaDoorPl
namespace Go.Proofs.YtpgldnjejnigiaaDoor

def leapB (y : Int) : Bool := (decide (y % 4 = 0) && !decide (y % 100 = 0)) || decide (y % 400 = 0)
def yearL (y : Int) : Int := if leapB y then 366 else 365
/-- the days of a month, from 0 on -/
def monL (y k : Int) : Int := if k = 1 then (if leapB y then 29 else 28) else if k = 3 ∨ k = 5 ∨ k = 8 ∨ k = 10 then 30 else 31
theorem yearL_range (y : Int) : 365 ≤ yearL y ∧ yearL y ≤ 366 := by unfold yearL; split <;> omega
theorem monL_range (y k : Int) : 28 ≤ monL y k ∧ monL y k ≤ 31 := by unfold monL; repeat' split <;> omega
/-- the first day of the year 2000 + n -/
def firstN : Nat → Int
  | 0 => 0
  | n + 1 => firstN n + yearL (2000 + n)
theorem firstN_range : ∀ n : Nat, 365 * (n : Int) ≤ firstN n ∧ firstN n ≤ 366 * n
  | 0 => by simp [firstN]
  | n + 1 => by
    have := firstN_range n
    have := yearL_range (2000 + n)
    rw [firstN]
    omega
theorem firstN_mono {a b : Nat} (h : a ≤ b) : firstN a ≤ firstN b := by
  induction h with
  | refl => exact Int.le_refl _
  | step _ ih => exact Int.le_trans ih (by rw [firstN]; have := yearL_range (2000 + (by assumption : Nat)); omega)
/-- the days of a year ahead of a month -/
def cumN (y : Int) : Nat → Int
  | 0 => 0
  | k + 1 => cumN y k + monL y k
theorem cumN_range (y : Int) : ∀ k : Nat, 28 * (k : Int) ≤ cumN y k ∧ cumN y k ≤ 31 * k
  | 0 => by simp [cumN]
  | k + 1 => by
    have := cumN_range y k
    have := monL_range y k
    rw [cumN]
    omega
theorem cumN_12 (y : Int) : cumN y 12 = yearL y := by
  simp [cumN, monL, yearL]
  split <;> rfl

def yF : Nat → Nat → Int → Nat × Int
  | 0, n, D => (n, D)
  | k + 1, n, D => if yearL (2000 + n) ≤ D then yF k (n + 1) (D - yearL (2000 + n)) else (n, D)
theorem yF_on {k n : Nat} {D : Int} (hk : D < 365 * k) (h : yearL (2000 + n) ≤ D) : ∃ k', k = k' + 1 ∧ D - yearL (2000 + n) < 365 * k' ∧ yF k n D = yF k' (n + 1) (D - yearL (2000 + n)) := by
  have := yearL_range (2000 + n)
  obtain ⟨k', rfl⟩ : ∃ k', k = k' + 1 := ⟨k - 1, by omega⟩
  exact ⟨k', rfl, by omega, by rw [yF, if_pos h]⟩
theorem yF_off {k n : Nat} {D : Int} (h : ¬ yearL (2000 + n) ≤ D) : yF k n D = (n, D) := by
  cases k with
  | zero => rfl
  | succ k => rw [yF, if_neg h]
theorem yF_spec : ∀ (k n : Nat) (D : Int), 0 ≤ D → D < 365 * k → 0 ≤ (yF k n D).2 ∧ (yF k n D).2 < yearL (2000 + (yF k n D).1) ∧ firstN (yF k n D).1 + (yF k n D).2 = firstN n + D ∧ n ≤ (yF k n D).1
  | 0, n, D, h0, h => by omega
  | k + 1, n, D, h0, h => by
    rw [yF]
    split
    · rename_i hy
      have hr := yearL_range (2000 + n)
      obtain ⟨a, b, c, d⟩ := yF_spec k (n + 1) (D - yearL (2000 + n)) (by omega) (by omega)
      exact ⟨a, b, by rw [c, firstN]; omega, by omega⟩
    · exact ⟨h0, by show D < yearL (2000 + n); omega, rfl, Nat.le_refl _⟩
def mF (y : Int) : Nat → Nat → Int → Nat × Int
  | 0, m, D => (m, D)
  | k + 1, m, D => if monL y m ≤ D then mF y k (m + 1) (D - monL y m) else (m, D)
theorem mF_on {y : Int} {k m : Nat} {D : Int} (hk : k + m = 12) (hD : D + cumN y m < yearL y) (h : monL y m ≤ D) : ∃ k', k = k' + 1 ∧ k' + (m + 1) = 12 ∧ (D - monL y m) + cumN y (m + 1) < yearL y ∧ m + 1 < 12 ∧ mF y k m D = mF y k' (m + 1) (D - monL y m) := by
  have h12 := cumN_12 y
  have hm : m + 1 < 12 := by
    rcases Nat.lt_trichotomy (m + 1) 12 with h1 | h1 | h1
    · exact h1
    · exfalso
      rw [← h1, cumN] at h12
      omega
    · exfalso
      have hm : m = 12 := by omega
      subst hm
      have := monL_range y (12 : Nat)
      omega
  obtain ⟨k', rfl⟩ : ∃ k', k = k' + 1 := ⟨k - 1, by omega⟩
  exact ⟨k', rfl, by omega, by rw [cumN]; omega, hm, by rw [mF, if_pos h]⟩
theorem mF_off {y : Int} {k m : Nat} {D : Int} (h : ¬ monL y m ≤ D) : mF y k m D = (m, D) := by
  cases k with
  | zero => rfl
  | succ k => rw [mF, if_neg h]
theorem mF_spec (y : Int) : ∀ (k m : Nat) (D : Int), k + m = 12 → 0 ≤ D → D + cumN y m < yearL y → 0 ≤ (mF y k m D).2 ∧ (mF y k m D).2 < monL y (mF y k m D).1 ∧ cumN y (mF y k m D).1 + (mF y k m D).2 = cumN y m + D ∧ (mF y k m D).1 < 12
  | 0, m, D, hk, h0, h => by
    obtain rfl : m = 12 := by omega
    have := cumN_12 y
    omega
  | k + 1, m, D, hk, h0, h => by
    rw [mF]
    split
    · rename_i hy
      have hr := monL_range y m
      obtain ⟨a, b, c, d⟩ := mF_spec y k (m + 1) (D - monL y m) (by omega) (by omega) (by rw [cumN]; omega)
      exact ⟨a, b, by rw [c, cumN]; omega, d⟩
    · exact ⟨h0, by show D < monL y m; omega, rfl, by show m < 12; omega⟩

structure Ymd where
  (n m : Nat)
  (o : Int)
/-- the year (from 2000 on), the month (from 0 on) and the day of the month (from 0 on) -/
def ymd (d : Int) : Ymd :=
  ⟨(yF 3000 0 d).1, (mF (2000 + (yF 3000 0 d).1) 12 0 (yF 3000 0 d).2).1, (mF (2000 + (yF 3000 0 d).1) 12 0 (yF 3000 0 d).2).2⟩
theorem ymd_spec {d : Int} (h : isD d = true) : 0 ≤ (ymd d).o ∧ (ymd d).o < monL (2000 + (ymd d).n) (ymd d).m ∧ (ymd d).m < 12 ∧ firstN (ymd d).n + cumN (2000 + (ymd d).n) (ymd d).m + (ymd d).o = d ∧ (ymd d).n < 2900 := by
  obtain ⟨h0, h1⟩ := isD_iff.1 h
  obtain ⟨a, b, c, -⟩ := yF_spec 3000 0 d h0 (by omega)
  have hz : firstN 0 = 0 := rfl
  unfold ymd
  generalize yF 3000 0 d = p at *
  have hz2 : cumN (2000 + p.1) 0 = 0 := rfl
  obtain ⟨e, f, g, i⟩ := mF_spec (2000 + p.1) 12 0 p.2 rfl a (by rw [hz2]; omega)
  have := firstN_range p.1
  exact ⟨e, f, i, by show firstN p.1 + cumN (2000 + p.1) (mF (2000 + ↑p.1) 12 0 p.2).1 + (mF (2000 + ↑p.1) 12 0 p.2).2 = d; omega, by show p.1 < 2900; omega⟩

/-- the number of a day -/
def dayN (y : Int) (k : Nat) (o : Int) : Int := firstN (y - 2000).toNat + cumN y k + (o - 1)
def ofOk (y k o : Int) : Bool := decide (2000 ≤ y) && decide (0 ≤ k) && decide (k < 12) && decide (1 ≤ o) && decide (o ≤ monL y k)
/-- the day, by the program -/
def ofZ (y k o : Int) : Int × Bool := if ofOk y k o then (dayN y k.toNat o, isD (dayN y k.toNat o)) else (0, false)
/-- a day that there is -/
def dayZ (y k o : Int) : Option Int := if ofOk y k o && isD (dayN y k.toNat o) then some (dayN y k.toNat o) else none
theorem dayN_far {y : Int} (k : Nat) {o : Int} (h : 5000 ≤ y) (h1 : 1 ≤ o) : isD (dayN y k o) = false := by
  have h2 := firstN_range (y - 2000).toNat
  have h3 := cumN_range y k
  unfold isD dayN
  simp
  intro
  omega
theorem ymd_back {d : Int} (h : isD d = true) : dayZ (2000 + (ymd d).n) (ymd d).m ((ymd d).o + 1) = some d := by
  obtain ⟨a, b, c, e, f⟩ := ymd_spec h
  have e1 : dayN (2000 + (ymd d).n) ((ymd d).m : Int).toNat ((ymd d).o + 1) = d := by
    unfold dayN
    rw [show ((2000 : Int) + (ymd d).n - 2000).toNat = (ymd d).n by omega, Int.toNat_natCast]
    omega
  unfold dayZ
  rw [e1, h]
  have : ofOk (2000 + (ymd d).n) (ymd d).m ((ymd d).o + 1) = true := by
    unfold ofOk
    simp
    omega
  rw [this]
  rfl
/-- whatever day there is has just that year, month, day -/
theorem ymd_uniq {y k o d : Int} (h : dayZ y k o = some d) : isD d = true ∧ (ymd d).n = y - 2000 ∧ (ymd d).m = k ∧ (ymd d).o + 1 = o := by
  unfold dayZ at h
  by_cases hc : (ofOk y k o && isD (dayN y k.toNat o)) = true
  · rw [if_pos hc] at h
    rw [Bool.and_eq_true] at hc
    obtain ⟨hc, hd⟩ := hc
    injection h with h
    rw [h] at hd
    refine ⟨hd, ?_⟩
    obtain ⟨a, b, c, e, f⟩ := ymd_spec hd
    unfold ofOk at hc
    simp at hc
    obtain ⟨⟨⟨⟨h1, h2⟩, h3⟩, h4⟩, h5⟩ := hc
    obtain ⟨n, hn⟩ : ∃ n : Nat, (y - 2000).toNat = n := ⟨_, rfl⟩
    have hy : y = 2000 + (n : Int) := by omega
    obtain ⟨k, rfl⟩ := Int.eq_ofNat_of_zero_le h2
    rw [hy] at h h5
    unfold dayN at h
    rw [show ((2000 : Int) + n - 2000).toNat = n by omega, Int.toNat_natCast] at h
    generalize (ymd d).n = N at *
    generalize (ymd d).m = M at *
    generalize (ymd d).o = O at *
    have step : ∀ (n N : Nat) (k K : Nat) (o O : Int), k < 12 → o < monL (2000 + n) k → 0 ≤ O → n < N → firstN n + cumN (2000 + n) k + o < firstN N + cumN (2000 + N) K + O := by
      intro n N k K o O hk ho hO hlt
      have g1 := firstN_mono (a := n + 1) (b := N) hlt
      rw [firstN] at g1
      have g2 := cumN_12 (2000 + n)
      have g3 : ∀ j : Nat, j ≤ 12 → cumN (2000 + n) j ≤ cumN (2000 + n) 12 := fun j hj => by
        have : ∀ i : Nat, cumN (2000 + n) (12 - i) ≤ cumN (2000 + n) 12 := fun i => by
          induction i with
          | zero => exact Int.le_refl _
          | succ i ih =>
            by_cases hi : i < 12
            · have e : 12 - i = (12 - (i + 1)) + 1 := by omega
              rw [e, cumN] at ih
              have := monL_range (2000 + n) (12 - (i + 1) : Nat)
              omega
            · rw [show 12 - (i + 1) = 12 - i by omega]; exact ih
        have := this (12 - j)
        rwa [show 12 - (12 - j) = j by omega] at this
      have g4 := g3 (k + 1) hk
      rw [cumN] at g4
      have g5 := (cumN_range (2000 + N) K).1
      omega
    have hnN : n = N := by
      rcases Nat.lt_trichotomy n N with hlt | heq | hlt
      · have := step n N k M (o - 1) O (by omega) (by omega) a hlt
        omega
      · exact heq
      · have := step N n M k O (o - 1) c b (by omega) hlt
        omega
    subst hnN
    have cm : ∀ {a b : Nat}, a ≤ b → cumN (2000 + n) a ≤ cumN (2000 + n) b := fun {a b} h => by
      induction h with
      | refl => exact Int.le_refl _
      | step _ ih => exact Int.le_trans ih (by rw [cumN]; have := monL_range (2000 + n) (by assumption : Nat); omega)
    have hkM : k = M := by
      rcases Nat.lt_trichotomy k M with hlt | heq | hlt
      · have := cm (a := k + 1) (b := M) hlt
        rw [cumN] at this
        omega
      · exact heq
      · have := cm (a := M + 1) (b := k) hlt
        rw [cumN] at this
        omega
    subst hkM
    omega
  · rw [if_neg hc] at h; cases h

/-! ### months on -/
/-- the day so many months on: of the month's number, the day of the month -/
def monZ (a o : Int) : Option Int := if a < 24000 then none else dayZ (a / 12) (a % 12) (if o < monL (a / 12) (a % 12) then o else monL (a / 12) (a % 12))
def atZ (d n : Int) : Int := (2000 + (ymd d).n) * 12 + (ymd d).m + n
def tenZ (d n : Int) : Option Int := if isD d && decide (-40000 ≤ n) && decide (n ≤ 40000) then monZ (atZ d n) ((ymd d).o + 1) else none
/-- the first day of a month -/
def fstA (a : Int) : Int := firstN (a / 12 - 2000).toNat + cumN (a / 12) (a % 12).toNat
theorem fstA_succ {a : Int} (h : 24000 ≤ a) : fstA (a + 1) = fstA a + monL (a / 12) (a % 12) := by
  unfold fstA
  by_cases h11 : a % 12 = 11
  · have e1 : (a + 1) / 12 = a / 12 + 1 := by omega
    have e2 : (a + 1) % 12 = 0 := by omega
    obtain ⟨n, hn⟩ : ∃ n : Nat, (a / 12 - 2000).toNat = n := ⟨_, rfl⟩
    have hy : a / 12 = 2000 + (n : Int) := by omega
    rw [e1, e2, h11, hy, show ((2000 : Int) + n + 1 - 2000).toNat = n + 1 by omega, show ((2000 : Int) + n - 2000).toNat = n by omega, firstN, ← cumN_12]
    show firstN n + cumN (2000 + n) 12 + cumN (2000 + n + 1) 0 = firstN n + cumN (2000 + n) 11 + monL (2000 + n) 11
    rw [show cumN (2000 + n + 1) 0 = 0 from rfl, show cumN (2000 + (n : Int)) 12 = cumN (2000 + n) 11 + monL (2000 + n) (11 : Nat) from rfl]
    show firstN n + (cumN (2000 + n) 11 + monL (2000 + n) 11) + 0 = _
    omega
  · have e1 : (a + 1) / 12 = a / 12 := by omega
    have e2 : ((a + 1) % 12).toNat = (a % 12).toNat + 1 := by omega
    rw [e1, e2, cumN, Int.toNat_of_nonneg (by omega)]
    omega
theorem monZ_some {a o t : Int} (h : monZ a o = some t) : 24000 ≤ a ∧ isD t = true ∧ t = fstA a + (if o < monL (a / 12) (a % 12) then o else monL (a / 12) (a % 12)) - 1 := by
  unfold monZ at h
  by_cases ha : a < 24000
  · rw [if_pos ha] at h; cases h
  · rw [if_neg ha] at h
    unfold dayZ at h
    generalize (if o < monL (a / 12) (a % 12) then o else monL (a / 12) (a % 12)) = p at *
    by_cases hc : (ofOk (a / 12) (a % 12) p && isD (dayN (a / 12) (a % 12).toNat p)) = true
    · rw [if_pos hc] at h
      injection h with h
      rw [Bool.and_eq_true, h] at hc
      refine ⟨by omega, hc.2, ?_⟩
      rw [← h]
      unfold dayN fstA
      omega
    · rw [if_neg hc] at h; cases h
theorem ten_next {d n t u : Int} (h : tenZ d n = some t) (hu : tenZ d (n + 1) = some u) : t < u ∧ u ≤ t + 34 := by
  unfold tenZ at h hu
  by_cases hc : (isD d && decide (-40000 ≤ n) && decide (n ≤ 40000)) = true
  · by_cases hc' : (isD d && decide (-40000 ≤ n + 1) && decide (n + 1 ≤ 40000)) = true
    · rw [if_pos hc] at h
      rw [if_pos hc'] at hu
      have e : atZ d (n + 1) = atZ d n + 1 := by unfold atZ; omega
      rw [e] at hu
      obtain ⟨a, b, c⟩ := monZ_some h
      obtain ⟨a', b', c'⟩ := monZ_some hu
      rw [fstA_succ a] at c'
      have h1 := monL_range (atZ d n / 12) (atZ d n % 12)
      have h2 := monL_range ((atZ d n + 1) / 12) ((atZ d n + 1) % 12)
      split at c <;> split at c' <;> omega
    · rw [if_neg hc'] at hu; cases hu
  · rw [if_neg hc] at h; cases h
end Go.Proofs.YtpgldnjejnigiaaDoor
