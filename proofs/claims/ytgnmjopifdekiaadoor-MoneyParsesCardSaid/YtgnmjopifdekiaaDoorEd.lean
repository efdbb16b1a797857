/-
  Money: the library's division of two words by one, whole.
-/
import Derived.Test.YtgnmjopifdekiaaDoorE
namespace Go.Proofs.YtgnmjopifdekiaaDoor
set_option linter.unusedVariables false
set_option linter.unusedSimpArgs false
open Go.RowKit

theorem two_split (hi lo : Int) (s : Nat) (hs : s ≤ 64) (l0 : 0 ≤ lo) (l1 : lo < 18446744073709551616) :
    (hi * 2 ^ s + lo / 2 ^ (64 - s)) * 18446744073709551616 + lo * 2 ^ s % 18446744073709551616 = (hi * 18446744073709551616 + lo) * 2 ^ s ∧ 0 ≤ lo / 2 ^ (64 - s) ∧ lo / 2 ^ (64 - s) < 2 ^ s := by
  have hM : (2 : Int) ^ s * 2 ^ (64 - s) = 18446744073709551616 := by
    rw [← Int.pow_add, show s + (64 - s) = 64 by omega]
    rfl
  have hN : (0 : Int) < 2 ^ (64 - s) := Int.pow_pos (by omega)
  have hM0 : (0 : Int) < 2 ^ s := Int.pow_pos (by omega)
  generalize (2 : Int) ^ s = M at *
  generalize (2 : Int) ^ (64 - s) = N at *
  have e := Int.ediv_mul_add_emod lo N
  have r0 := Int.emod_nonneg lo (show N ≠ 0 by omega)
  have r1 := Int.emod_lt_of_pos lo hN
  have q0 := Int.ediv_nonneg l0 (show 0 ≤ N by omega)
  generalize lo / N = q at *
  generalize lo % N = r at *
  have h1 : lo * M = q * 18446744073709551616 + r * M := by
    rw [← e, Int.add_mul, Int.mul_assoc, Int.mul_comm N M, hM]
  have h2 : r * M < 18446744073709551616 := by
    rw [← hM, Int.mul_comm M N]
    exact Int.mul_lt_mul_of_pos_right r1 hM0
  have h3 : 0 ≤ r * M := Int.mul_nonneg r0 (by omega)
  have h4 : lo * M % 18446744073709551616 = r * M := by
    rw [h1, Int.add_comm, Int.add_mul_emod_self_right, Int.emod_eq_of_lt h3 h2]
  refine ⟨?_, q0, ?_⟩
  · rw [h4, Int.add_mul, Int.add_mul, h1, Int.mul_assoc hi, Int.mul_assoc hi, Int.mul_comm M]
    omega
  · -- q * N ≤ lo < 2^64 = M * N
    refine (mul_lt_iff hN).2 ?_
    rw [hM]
    omega
theorem div_scaled {X y M : Int} (hM : 0 < M) (hy : 0 < y) : X * M / (y * M) = X / y ∧ X * M % (y * M) / M = X % y := by
  refine ⟨Int.mul_ediv_mul_of_pos_left X y hM, ?_⟩
  rw [Int.mul_comm X M, Int.mul_comm y M, Int.mul_emod_mul_of_pos _ _ hM]
  exact Int.mul_ediv_cancel_left _ (by omega)
theorem pow_int (k : Nat) : ((2 ^ k : Nat) : Int) = 2 ^ k := by simp
theorem and_low {Y : Int} (h0 : 0 ≤ Y) (h1 : Y ≤ 18446744073709551615) : bits BinOp.and IntKind.u64 Y 4294967295 = Y % 4294967296 := by
  obtain ⟨a, rfl⟩ := Int.eq_ofNat_of_zero_le h0
  rw [show (4294967295 : Int) = ((4294967295 : Nat) : Int) from rfl, (bits_nat .u64 64 (by decide) wraps_u64 a 4294967295 (by omega) (by decide)).1]
  rw [show (4294967295 : Nat) = 2 ^ 32 - 1 by decide, Nat.and_two_pow_sub_one_eq_mod]
  rfl
theorem bitLen_pow : ∀ (n x : Nat), x ≤ n → x ≠ 0 → x < 2 ^ 64 → 1 ≤ Lib.bitLen x ∧ 2 ^ (Lib.bitLen x - 1) ≤ x ∧ x < 2 ^ Lib.bitLen x
  | 0, x, h, h0, _ => by omega
  | n + 1, x, h, h0, h64 => by
    have hh := Lib.bitLen_half x h0 h64
    by_cases h1 : x / 2 = 0
    · have : x = 1 := by omega
      subst this
      have : Lib.bitLen 1 = 1 := by decide
      rw [this]
      decide
    · obtain ⟨a, b, c⟩ := bitLen_pow n (x / 2) (by omega) h1 (by omega)
      rw [hh]
      refine ⟨by omega, ?_, ?_⟩
      · rw [show 1 + Lib.bitLen (x / 2) - 1 = (Lib.bitLen (x / 2) - 1) + 1 by omega, Nat.pow_succ]
        omega
      · rw [Nat.add_comm, Nat.pow_succ]
        omega
theorem lead_facts {y : Int} (h0 : 1 ≤ y) (h1 : y ≤ 9223372036854775807) : ∃ s : Nat, 1 ≤ s ∧ s ≤ 63 ∧ 64 - (Lib.bitLen y.toNat : Int) = s ∧ 9223372036854775808 ≤ y * 2 ^ s ∧ y * 2 ^ s ≤ 18446744073709551615 := by
  obtain ⟨n, rfl⟩ := Int.eq_ofNat_of_zero_le (show 0 ≤ y by omega)
  rw [Int.toNat_natCast]
  obtain ⟨a, b, c⟩ := bitLen_pow n n (Nat.le_refl _) (by omega) (by omega)
  have hb : Lib.bitLen n ≤ 63 := by
    rcases Nat.lt_or_ge 63 (Lib.bitLen n) with h | h
    · exfalso
      have : 2 ^ 63 ≤ 2 ^ (Lib.bitLen n - 1) := Nat.pow_le_pow_right (by omega) (by omega)
      omega
    · exact h
  refine ⟨64 - Lib.bitLen n, by omega, by omega, by omega, ?_, ?_⟩
  · have h2 : 2 ^ (Lib.bitLen n - 1) * 2 ^ (64 - Lib.bitLen n) ≤ n * 2 ^ (64 - Lib.bitLen n) := Nat.mul_le_mul_right _ b
    rw [← Nat.pow_add, show Lib.bitLen n - 1 + (64 - Lib.bitLen n) = 63 by omega] at h2
    have h3 : ((n * 2 ^ (64 - Lib.bitLen n) : Nat) : Int) = (n : Int) * 2 ^ (64 - Lib.bitLen n) := by simp
    omega
  · have h2 : (n + 1) * 2 ^ (64 - Lib.bitLen n) ≤ 2 ^ Lib.bitLen n * 2 ^ (64 - Lib.bitLen n) := Nat.mul_le_mul_right _ c
    rw [← Nat.pow_add, show Lib.bitLen n + (64 - Lib.bitLen n) = 64 by omega, Nat.add_mul] at h2
    have h3 : ((n * 2 ^ (64 - Lib.bitLen n) : Nat) : Int) = (n : Int) * 2 ^ (64 - Lib.bitLen n) := by simp
    have h4 : 0 < 2 ^ (64 - Lib.bitLen n) := Nat.pow_pos (by omega)
    omega
theorem divZero (lo y : Int) (w : World) (hy0 : 1 ≤ y) (hy : y ≤ 9223372036854775807) (l0 : 0 ≤ lo) (l1 : lo < 18446744073709551616) :
    Calls Tryd.prog 31 #[.int .u64 0, .int .u64 lo, .int .u64 y] w fun e w' => e = .returned (.tuple #[.int .u64 (lo / y), .int .u64 (lo % y)]) ∧ Below w.heap.size w w' := by
  have hyb : (y == 0) = false := by simp; omega
  have hyn : (y != 0) = true := by simp; omega
  go_enter Tryd.func31, Tryd.ntmps31
  go_wp2
  go_quiet (fail)
  go_wp2
  go_ret2
  exact ⟨rfl, by (repeat' first | exact Below.refl _ _ | (with_reducible assumption) | (with_reducible refine bAlloc (by first | omega | (simp <;> omega)) ?_) | (with_reducible refine bSet (by first | omega | (simp <;> omega)) ?_) | (with_reducible refine bDrew ?_) | (with_reducible refine bDrewN ?_) | (with_reducible refine bTrans (by with_reducible assumption) (by first | omega | (simp <;> omega)) ?_))⟩
theorem divW (hi lo y : Int) (w : World) (h0 : 0 ≤ hi) (h1 : hi < y) (hy : y ≤ 9223372036854775807) (l0 : 0 ≤ lo) (l1 : lo < 18446744073709551616) :
    Calls Tryd.prog 31 #[.int .u64 hi, .int .u64 lo, .int .u64 y] w fun e w' => e = .returned (.tuple #[.int .u64 ((hi * 18446744073709551616 + lo) / y), .int .u64 ((hi * 18446744073709551616 + lo) % y)]) ∧ Below w.heap.size w w' := by
  by_cases hz : hi = 0
  · subst hz
    have := divZero lo y w (by omega) hy l0 l1
    rw [Int.zero_mul, Int.zero_add]
    exact this
  · obtain ⟨s, s0, s1, hs, g0, g1⟩ := lead_facts (y := y) (by omega) hy
    have hL : ∀ w, Calls Tryd.prog 53 #[.int .u64 y] w fun e w' => e = .returned (.int .i64 s) ∧ w = w' := fun w =>
      (Tryd.bits_LeadingZeros64 y w (by omega) (by omega)).mono fun e w' ⟨he, hw⟩ => ⟨by rw [he, hs], hw.symm⟩
    obtain ⟨t1, t2, t3⟩ := two_split hi lo s (by omega) l0 l1
    have hM0 : (0 : Int) < 2 ^ s := Int.pow_pos (by omega)
    have hhM : hi * 2 ^ s ≤ y * 2 ^ s - 2 ^ s := by
      have : hi * 2 ^ s ≤ (y - 1) * 2 ^ s := Int.mul_le_mul_of_nonneg_right (by omega) (by omega)
      rw [Int.sub_mul, Int.one_mul] at this
      exact this
    have hh0 : 0 ≤ hi * 2 ^ s := Int.mul_nonneg h0 (by omega)
    have e1 : IntKind.u64.wrap (y * 2 ^ s) = y * 2 ^ s := IntWalk.u64_in _ (by omega)
    have eh : IntKind.u64.wrap (hi * 2 ^ s) = hi * 2 ^ s := IntWalk.u64_in _ (by omega)
    have e5 : IntKind.u64.wrap (lo * 2 ^ s) = lo * 2 ^ s % 18446744073709551616 := by rw [IntKind.wrap_u64]
    have L0 := Int.emod_nonneg (lo * 2 ^ s) (show (18446744073709551616 : Int) ≠ 0 by omega)
    have L1 := Int.emod_lt_of_pos (lo * 2 ^ s) (show (0 : Int) < 18446744073709551616 by omega)
    have e4 : bits BinOp.or IntKind.u64 (IntKind.u64.wrap (hi * 2 ^ s)) (lo / 2 ^ (64 - s)) = hi * 2 ^ s + lo / 2 ^ (64 - s) := by
      rw [eh]
      exact bits_join .u64 64 (by decide) wraps_u64 s _ _ hh0 (Int.mul_emod_left hi _) (by show _ < (2 : Int) ^ 64; omega) t2 t3 (by show _ < (2 : Int) ^ 64; omega)
    have hc := divCore hi lo y (y * 2 ^ s) (y * 2 ^ s / 4294967296) (y * 2 ^ s % 4294967296) (hi * 2 ^ s + lo / 2 ^ (64 - s)) (lo * 2 ^ s % 18446744073709551616) (lo * 2 ^ s % 18446744073709551616 / 4294967296) (lo * 2 ^ s % 18446744073709551616 % 4294967296) s w (by omega) h1 hy l0 l1 s0 s1
      e1 (and_low (by omega) g1) rfl (Lib.hid (by omega)) e4 e5 rfl (and_low L0 (by omega)) ⟨by omega, by omega, by omega, by omega, by omega, by omega, by omega, by omega⟩ (by omega) hL
    refine hc.mono fun e w' ⟨he, hw⟩ => ⟨?_, hw ▸ Below.refl _ _⟩
    rw [he]
    generalize lo * 2 ^ s % 18446744073709551616 = L at *
    generalize hi * 2 ^ s + lo / 2 ^ (64 - s) = u at *
    have hX : (u * 4294967296 + L / 4294967296) * 4294967296 + L % 4294967296 = (hi * 18446744073709551616 + lo) * 2 ^ s := by rw [← t1]; omega
    obtain ⟨b1, b2⟩ := div_both (X := (hi * 18446744073709551616 + lo) * 2 ^ s) (y := y * 2 ^ s) (u1 := u) (v := L / 4294967296) (q0 := L % 4294967296) (r1 := rem2 u (L / 4294967296) (y * 2 ^ s)) (r0 := rem2 (rem2 u (L / 4294967296) (y * 2 ^ s)) (L % 4294967296) (y * 2 ^ s)) (q1 := quo2 u (L / 4294967296) (y * 2 ^ s)) (q2 := quo2 (rem2 u (L / 4294967296) (y * 2 ^ s)) (L % 4294967296) (y * 2 ^ s))
      (by unfold quo2 rem2; exact (Int.ediv_mul_add_emod _ _).symm) hX.symm (by unfold quo2 rem2; exact (Int.ediv_mul_add_emod _ _).symm) (by unfold rem2; exact Int.emod_nonneg _ (by omega)) (by unfold rem2; exact Int.emod_lt_of_pos _ (by omega))
    obtain ⟨d1, d2⟩ := div_scaled (X := hi * 18446744073709551616 + lo) hM0 (show 0 < y by omega)
    rw [← b1, ← b2, d1, d2]
end Go.Proofs.YtgnmjopifdekiaaDoor
