/-
  More on ranges of signs and digits (no program in sight).
-/
import Derived.Test.YtgnmjopifdekiaaDoorP
namespace Go.Proofs.YtgnmjopifdekiaaDoor
set_option linter.unusedVariables false
set_option linter.unusedSimpArgs false

theorem rng_append_left (p : Int → Bool) (s t : ByteArray) (a n : Nat) (h : a + n ≤ s.size) : rng p (s ++ t) a n = rng p s a n := by
  rw [Bool.eq_iff_iff, rng_iff, rng_iff]
  constructor
  all_goals
    intro hh k h1 h2
    have := hh k h1 h2
    first
      | rwa [byt_append, if_pos (by omega)] at this
      | (rw [byt_append, if_pos (by omega)]; exact this)
theorem rng_append_right (p : Int → Bool) (s t : ByteArray) (a n : Nat) (h : s.size ≤ a) : rng p (s ++ t) a n = rng p t (a - s.size) n := by
  rw [Bool.eq_iff_iff, rng_iff, rng_iff]
  constructor
  · intro hh k h1 h2
    have := hh (k + s.size) (by omega) (by omega)
    rwa [byt_append, if_neg (by omega), show k + s.size - s.size = k by omega] at this
  · intro hh k h1 h2
    rw [byt_append, if_neg (by omega)]
    exact hh _ (by omega) (by omega)
theorem rng_pad (w n : Nat) : rng digI (padB w n) 0 w = true := by
  rw [rng_iff]
  intro k _ hk
  rw [padB_byt w n k (by omega)]
  have : n / 10 ^ (w - 1 - k) % 10 < 10 := Nat.mod_lt _ (by omega)
  unfold digI
  simp
  omega
theorem num_pad (w n : Nat) (hn : n < 10 ^ w) : ∀ k, k ≤ w → num (padB w n) 0 k = (n / 10 ^ (w - k) : Nat)
  | 0, _ => by rw [num, Nat.sub_zero, Nat.div_eq_of_lt hn]; rfl
  | k + 1, hk => by
    have hd : digI (byt (padB w n) (0 + k)) = true := (rng_iff digI _ w 0).1 (rng_pad w n) _ (by omega) (by omega)
    rw [num, num_pad w n hn k (by omega), val_dig hd, Nat.zero_add, padB_byt w n k (by omega)]
    have e : w - k = (w - 1 - k) + 1 := by omega
    rw [show w - (k + 1) = w - 1 - k by omega, e, Nat.pow_succ, ← Nat.div_div_eq_div_mul]
    generalize n / 10 ^ (w - 1 - k) = q
    omega
theorem num_append_right (s t : ByteArray) (a : Nat) (h : s.size ≤ a) : ∀ k, num (s ++ t) a k = num t (a - s.size) k
  | 0 => rfl
  | k + 1 => by rw [num, num, num_append_right s t a h k, byt_append, if_neg (by omega), show a + k - s.size = a - s.size + k by omega]
theorem num_append_left (s t : ByteArray) (a : Nat) : ∀ k, a + k ≤ s.size → num (s ++ t) a k = num s a k
  | 0, _ => rfl
  | k + 1, h => by rw [num, num, num_append_left s t a k (by omega), byt_append, if_pos (by omega)]
end Go.Proofs.YtgnmjopifdekiaaDoor
