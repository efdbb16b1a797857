/-
  Money: the library's division of two words by one, walked.
-/
import Derived.Test.YtgnmjopifdekiaaDoorC
import Derived.Test.YtgnmjopifdekiaaDoorPd
import Derived.IntWalk
import Derived.Lib.EndianBits
namespace Go.Proofs.YtgnmjopifdekiaaDoor
set_option linter.unusedVariables false
set_option linter.unusedSimpArgs false
open Go.RowKit

theorem wrapU {u v Q Y R : Int} (h : u * 4294967296 + v - Q * Y = R) (h0 : 0 ≤ R) (h1 : R ≤ 18446744073709551615) :
    IntKind.u64.wrap (IntKind.u64.wrap (IntKind.u64.wrap (u * 4294967296) + v) - IntKind.u64.wrap (Q * Y)) = R := by
  simp only [IntKind.wrap_u64]
  generalize Q * Y = t at *
  omega
theorem low_mul {q y0 : Int} (h0 : 0 ≤ y0) (h1 : y0 < 4294967296) (hq : q < 4294967296) : q * y0 ≤ 18446744073709551615 := by
  have : q * y0 ≤ 4294967295 * y0 := Int.mul_le_mul_of_nonneg_right (by omega) h0
  omega
theorem pos_of_test {q r v y0 : Int} (h : 4294967296 ≤ q ∨ 4294967296 * r + v < q * y0) (hq : 0 ≤ q) (hr : 0 ≤ r) (hv : 0 ≤ v) : 1 ≤ q := by
  rcases h with h | h
  · omega
  · rcases (by omega : q = 0 ∨ 1 ≤ q) with h' | h'
    · subst h'; omega
    · exact h'
/-- a state at a loop's head -/
def DivH (u v y1 y0 q r : Int) : Prop := DivS u v y1 y0 q r ∧ q ≤ 4294967297 ∧ r < 4294967296
theorem div_head {u v y1 y0 : Int} (p : DivP u v y1 y0) : DivH u v y1 y0 (u / y1) (u - u / y1 * y1) ∧ 0 ≤ u / y1 ∧ u / y1 ≤ 4294967297 ∧ 0 ≤ u / y1 * y1 ∧ u / y1 * y1 ≤ u := by
  obtain ⟨sS, sq, sr⟩ := div_start p
  have sS' := sS
  obtain ⟨a0, a1, b0, b1, u0, u1, hv0, hv1⟩ := p
  obtain ⟨t1, t2, t3, -⟩ := sS
  have hrr : u % y1 = u - u / y1 * y1 := by omega
  rw [hrr] at sS' sr t2
  exact ⟨⟨sS', sq, by omega⟩, t3, sq, Int.mul_nonneg t3 (by omega), by omega⟩
def quo2 (u v Y : Int) : Int := (u * 4294967296 + v) / Y
def rem2 (u v Y : Int) : Int := (u * 4294967296 + v) % Y
theorem div_end {u v y1 y0 Y Q : Int} (p : DivP u v y1 y0) (hY : Y = y1 * 4294967296 + y0) (hq : Q = (u * 4294967296 + v) / (y1 * 4294967296 + y0)) :
    Q = quo2 u v Y ∧ 0 ≤ Q ∧ Q < 4294967296 ∧ IntKind.u64.wrap (IntKind.u64.wrap (IntKind.u64.wrap (u * 4294967296) + v) - IntKind.u64.wrap (Q * Y)) = rem2 u v Y ∧ 0 ≤ rem2 u v Y ∧ rem2 u v Y < Y := by
  subst hY
  have hlt := div_lt32 p
  obtain ⟨h1, h2, h3⟩ := div_rest p hq
  obtain ⟨a0, a1, b0, b1, u0, u1, hv0, hv1⟩ := p
  have hn : 0 ≤ (u * 4294967296 + v) / (y1 * 4294967296 + y0) := Int.ediv_nonneg (by omega) (by omega)
  exact ⟨hq, by omega, by omega, wrapU h1 h2 (by show (u * 4294967296 + v) % (y1 * 4294967296 + y0) ≤ _; omega), h2, h3⟩
set_option maxHeartbeats 8000000 in
set_option maxRecDepth 100000 in
theorem divCore (hi lo y Y y1 y0 u L v1 v0 : Int) (s : Nat) (w : World) (h0 : 1 ≤ hi) (h1 : hi < y) (hy : y ≤ 9223372036854775807) (l0 : 0 ≤ lo) (l1 : lo < 18446744073709551616) (s0 : 1 ≤ s) (s1 : s ≤ 63)
    (e1 : IntKind.u64.wrap (y * 2 ^ s) = Y) (e2 : bits BinOp.and IntKind.u64 Y 4294967295 = y0) (e3 : Y / 4294967296 = y1) (hYe : Hid (Y = y1 * 4294967296 + y0)) (e4 : bits BinOp.or IntKind.u64 (IntKind.u64.wrap (hi * 2 ^ s)) (lo / 2 ^ (64 - s)) = u)
    (e5 : IntKind.u64.wrap (lo * 2 ^ s) = L) (e6 : L / 4294967296 = v1) (e7 : bits BinOp.and IntKind.u64 L 4294967295 = v0)
    (p : DivP u v1 y1 y0) (pv : 0 ≤ v0 ∧ v0 < 4294967296)
    (hL : ∀ w, Calls Tryd.prog 53 #[.int .u64 y] w fun e w' => e = .returned (.int .i64 s) ∧ w = w') :
    Calls Tryd.prog 31 #[.int .u64 hi, .int .u64 lo, .int .u64 y] w fun e w' => e = .returned (.tuple #[.int .u64 (quo2 u v1 Y * 4294967296 + quo2 (rem2 u v1 Y) v0 Y), .int .u64 (rem2 (rem2 u v1 Y) v0 Y / 2 ^ s)]) ∧ w = w' := by
  obtain ⟨hH, g0, g1, g2, g3⟩ := div_head p
  have P := Lib.hid p
  obtain ⟨a0, a1, b0, b1, u0, u1, hv0, hv1⟩ := p
  obtain ⟨pv0, pv1⟩ := pv
  have HH := Lib.hid hH
  clear hH
  have hY1 : Y ≤ y1 * 4294967296 + y0 := by have := hYe.out; omega
  have hY2 : y1 * 4294967296 + y0 ≤ Y := by have := hYe.out; omega
  have hu64 : u ≤ 18446744073709551615 := by omega
  go_enter Tryd.func31, Tryd.ntmps31
  go_wp2_with (go_at_call 53; (with_reducible refine (hL _).mono ?_); rintro e w' ⟨rfl, rfl⟩)
  clear e1 e2 e4 e5 e7
  clear e3 e6
  go_loop [15, 16] (fun qq rr => ∃ q r : Int, qq = .int .u64 q ∧ rr = .int .u64 r ∧ DivH u v1 y1 y0 q r) (fun qq _ => (intOf qq).toNat)
  case atStart => exact ⟨_, _, rfl, rfl, HH.out⟩
  case round =>
    clear HH g0 g1 g2 g3
    obtain ⟨q, r, rfl, rfl, hS⟩ := hrel
    obtain ⟨hS, q1, r1⟩ := hS
    have S := Lib.hid hS
    obtain ⟨-, r0, q0, -⟩ := hS
    have m0 : 0 ≤ q * y0 := Int.mul_nonneg q0 b0
    have m1 := low_mul (q := q) b0 b1
    by_cases hT : 4294967296 ≤ q ∨ 4294967296 * r + v1 < q * y0
    · have S2 := Lib.hid (div_next P.out S.out hT)
      have qp := pos_of_test hT q0 r0 hv0
      by_cases hb : 4294967296 ≤ r + y1
      · have hdone := Lib.hid (div_done2 P.out S2.out hb (by omega))
        rcases (by omega : 4294967296 ≤ q ∨ (q < 4294967296 ∧ 4294967296 * r + v1 < q * y0)) with hT1 | ⟨hT1, hT2⟩
        all_goals
          try (have m2 := m1 hT1)
          clear hT m1
          have hE := div_end P.out hYe.out hdone.out
          obtain ⟨f1, f2, f3, f4, f5, f6⟩ := hE
          have E1 := Lib.hid f1
          clear f1
          obtain ⟨R, hR⟩ : ∃ R, rem2 u v1 Y = R := ⟨_, rfl⟩
          rw [hR] at f4 f5 f6
          have HR := Lib.hid hR
          clear hR
          have p2 : DivP R v0 y1 y0 := ⟨a0, a1, b0, b1, f5, by have := hYe.out; omega, pv0, pv1⟩
          have P2 := Lib.hid p2
          obtain ⟨hH2, g0, g1, g2, g3⟩ := div_head p2
          have HH2 := Lib.hid hH2
          clear p2 hH2
          have hR64 : R ≤ 18446744073709551615 := by omega
          go_wp2
          all_goals try (exfalso; omega)
          clear f4
          go_loop [16, 18] (fun rr qq => ∃ q r : Int, qq = .int .u64 q ∧ rr = .int .u64 r ∧ DivH R v0 y1 y0 q r) (fun _ qq => (intOf qq).toNat)
          case atStart => exact ⟨_, _, rfl, rfl, HH2.out⟩
          case round =>
            clear HH2 g0 g1 g2 g3
            obtain ⟨q2, r2, rfl, rfl, hS2⟩ := hrel
            obtain ⟨hS2, q21, r21⟩ := hS2
            have S2 := Lib.hid hS2
            obtain ⟨-, r20, q20, -⟩ := hS2
            have m20 : 0 ≤ q2 * y0 := Int.mul_nonneg q20 b0
            have m21 := low_mul (q := q2) b0 b1
            by_cases hT2 : 4294967296 ≤ q2 ∨ 4294967296 * r2 + v0 < q2 * y0
            · have S3 := Lib.hid (div_next P2.out S2.out hT2)
              have q2p := pos_of_test hT2 q20 r20 pv0
              by_cases hb2 : 4294967296 ≤ r2 + y1
              · have hdone2 := Lib.hid (div_done2 P2.out S3.out hb2 (by omega))
                rcases (by omega : 4294967296 ≤ q2 ∨ (q2 < 4294967296 ∧ 4294967296 * r2 + v0 < q2 * y0)) with hT3 | ⟨hT3, hT4⟩
                all_goals
                  try (have m22 := m21 hT3)
                  clear hT2 m21
                  (have hE2 := div_end P2.out hYe.out hdone2.out; obtain ⟨f1, f2, f3, f4, f5, f6⟩ := hE2; have F1 := Lib.hid f1; clear f1; go_wp2; (all_goals first | (go_ret2; go_light; exact ⟨by rw [HR.out, ← F1.out, ← E1.out]; rfl, rfl⟩) | (exfalso; omega)))
              · rcases (by omega : 4294967296 ≤ q2 ∨ (q2 < 4294967296 ∧ 4294967296 * r2 + v0 < q2 * y0)) with hT3 | ⟨hT3, hT4⟩
                all_goals
                  try (have m22 := m21 hT3)
                  clear hT2 m21
                  go_wp2
                  all_goals first
                    | (go_round
                       case rel => exact ⟨q2 - 1, r2 + y1, rfl, rfl, S3.out, by omega, by omega⟩
                       case measure => simp [intOf]; omega)
                    | (exfalso; omega)
            · have hT3 : q2 < 4294967296 := by omega
              have m22 := m21 hT3
              have hT4 : q2 * y0 ≤ 4294967296 * r2 + v0 := by omega
              have hdone2 := Lib.hid (div_done P2.out S2.out hT4)
              clear hT2 m21
              (have hE2 := div_end P2.out hYe.out hdone2.out; obtain ⟨f1, f2, f3, f4, f5, f6⟩ := hE2; have F1 := Lib.hid f1; clear f1; go_wp2; (all_goals first | (go_ret2; go_light; exact ⟨by rw [HR.out, ← F1.out, ← E1.out]; rfl, rfl⟩) | (exfalso; omega)))
      · rcases (by omega : 4294967296 ≤ q ∨ (q < 4294967296 ∧ 4294967296 * r + v1 < q * y0)) with hT1 | ⟨hT1, hT2⟩
        all_goals
          try (have m2 := m1 hT1)
          clear hT m1
          go_wp2
          all_goals first
            | (go_round
               case rel => exact ⟨q - 1, r + y1, rfl, rfl, S2.out, by omega, by omega⟩
               case measure => simp [intOf]; omega)
            | (exfalso; omega)
    · have hT1 : q < 4294967296 := by omega
      have m2 := m1 hT1
      have hT2 : q * y0 ≤ 4294967296 * r + v1 := by omega
      have hdone := Lib.hid (div_done P.out S.out hT2)
      clear hT m1
      have hE := div_end P.out hYe.out hdone.out
      obtain ⟨f1, f2, f3, f4, f5, f6⟩ := hE
      have E1 := Lib.hid f1
      clear f1
      obtain ⟨R, hR⟩ : ∃ R, rem2 u v1 Y = R := ⟨_, rfl⟩
      rw [hR] at f4 f5 f6
      have HR := Lib.hid hR
      clear hR
      have p2 : DivP R v0 y1 y0 := ⟨a0, a1, b0, b1, f5, by have := hYe.out; omega, pv0, pv1⟩
      have P2 := Lib.hid p2
      obtain ⟨hH2, g0, g1, g2, g3⟩ := div_head p2
      have HH2 := Lib.hid hH2
      clear p2 hH2
      have hR64 : R ≤ 18446744073709551615 := by omega
      go_wp2
      all_goals try (exfalso; omega)
      clear f4
      go_loop [16, 18] (fun rr qq => ∃ q r : Int, qq = .int .u64 q ∧ rr = .int .u64 r ∧ DivH R v0 y1 y0 q r) (fun _ qq => (intOf qq).toNat)
      case atStart => exact ⟨_, _, rfl, rfl, HH2.out⟩
      case round =>
        clear HH2 g0 g1 g2 g3
        obtain ⟨q2, r2, rfl, rfl, hS2⟩ := hrel
        obtain ⟨hS2, q21, r21⟩ := hS2
        have S2 := Lib.hid hS2
        obtain ⟨-, r20, q20, -⟩ := hS2
        have m20 : 0 ≤ q2 * y0 := Int.mul_nonneg q20 b0
        have m21 := low_mul (q := q2) b0 b1
        by_cases hT2 : 4294967296 ≤ q2 ∨ 4294967296 * r2 + v0 < q2 * y0
        · have S3 := Lib.hid (div_next P2.out S2.out hT2)
          have q2p := pos_of_test hT2 q20 r20 pv0
          by_cases hb2 : 4294967296 ≤ r2 + y1
          · have hdone2 := Lib.hid (div_done2 P2.out S3.out hb2 (by omega))
            rcases (by omega : 4294967296 ≤ q2 ∨ (q2 < 4294967296 ∧ 4294967296 * r2 + v0 < q2 * y0)) with hT3 | ⟨hT3, hT4⟩
            all_goals
              try (have m22 := m21 hT3)
              clear hT2 m21
              (have hE2 := div_end P2.out hYe.out hdone2.out; obtain ⟨f1, f2, f3, f4, f5, f6⟩ := hE2; have F1 := Lib.hid f1; clear f1; go_wp2; (all_goals first | (go_ret2; go_light; exact ⟨by rw [HR.out, ← F1.out, ← E1.out]; rfl, rfl⟩) | (exfalso; omega)))
          · rcases (by omega : 4294967296 ≤ q2 ∨ (q2 < 4294967296 ∧ 4294967296 * r2 + v0 < q2 * y0)) with hT3 | ⟨hT3, hT4⟩
            all_goals
              try (have m22 := m21 hT3)
              clear hT2 m21
              go_wp2
              all_goals first
                | (go_round
                   case rel => exact ⟨q2 - 1, r2 + y1, rfl, rfl, S3.out, by omega, by omega⟩
                   case measure => simp [intOf]; omega)
                | (exfalso; omega)
        · have hT3 : q2 < 4294967296 := by omega
          have m22 := m21 hT3
          have hT4 : q2 * y0 ≤ 4294967296 * r2 + v0 := by omega
          have hdone2 := Lib.hid (div_done P2.out S2.out hT4)
          clear hT2 m21
          (have hE2 := div_end P2.out hYe.out hdone2.out; obtain ⟨f1, f2, f3, f4, f5, f6⟩ := hE2; have F1 := Lib.hid f1; clear f1; go_wp2; (all_goals first | (go_ret2; go_light; exact ⟨by rw [HR.out, ← F1.out, ← E1.out]; rfl, rfl⟩) | (exfalso; omega)))
end Go.Proofs.YtgnmjopifdekiaaDoor
