/-
  Money: the reference's division bit by bit, walked.
-/
import Derived.Test.YtgnmjopifdekiaaDoorG
import Derived.Test.YtgnmjopifdekiaaDoorPq
namespace Go.Proofs.YtgnmjopifdekiaaDoor
set_option linter.unusedVariables false
set_option linter.unusedSimpArgs false
open Go.RowKit

def partQ (n num den : Int) : Int := if 2199023255552 < n * num / den then -1 else n * num / den
def partR (n num den : Int) : Int := if 2199023255552 < n * num / den then 0 else n * num % den
set_option maxHeartbeats 4000000 in
set_option maxRecDepth 100000 in
theorem partsW (n num den : Int) (n0 : 0 ≤ n) (n1 : n ≤ 1099511627776) (m0 : 0 ≤ num) (m1 : num ≤ 9223372036854775807) (d0 : 1 ≤ den) (d1 : den ≤ 9223372036854775807) (w : World) :
    Calls Tryd.prog 33 #[.int .i64 n, .int .i64 num, .int .i64 den] w fun e w' => e = .returned (.tuple #[.int .i64 (partQ n num den), .int .i64 (partR n num den)]) ∧ w = w' := by
  have hbig : ∀ {x : Int}, 2199023255552 < n * num / den → x = partQ n num den ∨ x ≠ partQ n num den := fun _ => by omega
  have hover : 2199023255552 < n * num / den → partQ n num den = -1 ∧ partR n num den = 0 := fun h => by unfold partQ partR; rw [if_pos h, if_pos h]; exact ⟨rfl, rfl⟩
  have hunder : n * num / den ≤ 2199023255552 → partQ n num den = n * num / den ∧ partR n num den = n * num % den := fun h => by unfold partQ partR; rw [if_neg (by omega), if_neg (by omega)]; exact ⟨rfl, rfl⟩
  clear hbig
  have HO := Lib.hid hover
  have HU := Lib.hid hunder
  clear hover hunder
  have hr0 := Int.emod_nonneg num (show den ≠ 0 by omega)
  have hr1 := Int.emod_lt_of_pos num (show 0 < den by omega)
  have hM0 := Int.ediv_nonneg m0 (show 0 ≤ den by omega)
  have hM1 := Int.ediv_le_self den m0
  have HN1 := Lib.hid (fun h : 1 ≤ n => num_over (n := n) (den := den) m0 (by omega) h)
  have HT := Lib.hid (fun x q r (h : Dv x num den q r) => dv_twice (by omega) h)
  have HMo := Lib.hid (fun x q r (h : Dv x num den q r) => dv_more m0 (by omega) h)
  have HOv := Lib.hid (fun x q r (hx : x ≤ n) (h : Dv x num den q r) => dv_over (n := n) m0 (by omega) hx h)
  obtain ⟨M, eM⟩ : ∃ M, num / den = M := ⟨_, rfl⟩
  obtain ⟨m, em⟩ : ∃ m, num % den = m := ⟨_, rfl⟩
  rw [eM] at hM0 hM1 HN1 HMo
  rw [em] at hr0 hr1 HMo
  go_enter Tryd.func33, Tryd.ntmps33
  go_wp2
  go_loop [8, 9, 10] (fun q r i => ∃ (k : Nat) (Q R : Int), k ≤ 41 ∧ Hid (Dv (n / 2 ^ (41 - k)) num den Q R) ∧ 0 ≤ Q ∧ Q ≤ 2199023255552 ∧ 0 ≤ R ∧ R < den ∧ q = .int .i64 Q ∧ r = .int .u64 R ∧ i = .int .i64 k) (fun _ _ i => 41 - (intOf i).toNat)
  case atStart => exact ⟨0, 0, 0, by omega, Lib.hid (by
    rw [show n / 2 ^ (41 - 0) = 0 from Int.ediv_eq_zero_of_lt n0 (by show n < 2199023255552; omega)]
    exact ⟨by rw [Int.zero_mul, Int.zero_ediv], by rw [Int.zero_mul, Int.zero_emod], by omega, by omega, by omega⟩), by omega, by omega, by omega, by omega, rfl, rfl, rfl⟩
  case round =>
    obtain ⟨k, Q, R, hk, hDv, Q0, Q1, R0, R1, rfl, rfl, rfl⟩ := hrel
    by_cases hlt : k < 41
    · obtain ⟨j, hj⟩ : ∃ j : Nat, 40 - k = j := ⟨_, rfl⟩
      have hjI : (40 : Int) - (k : Int) = (j : Int) := by omega
      rw [show 41 - k = j + 1 by omega] at hDv
      have hD2 := HT.out _ Q R hDv.out
      have hst := half_step n j
      have hX := div_pow_le n0 j
      have hY0 := div_pow_le n0 (j + 1)
      have hnx : 41 - (k + 1) = j := by omega
      clear hDv HT
      obtain ⟨X, eX⟩ : ∃ X, n / 2 ^ j = X := ⟨_, rfl⟩
      obtain ⟨Y, hY⟩ : ∃ Y, n / 2 ^ (j + 1) = Y := ⟨_, rfl⟩
      rw [hY] at hD2 hst hY0
      rw [eX] at hst hX
      have EX := Lib.hid eX
      have eb := and1 X (by omega) (by omega)
      obtain ⟨b, hb⟩ : ∃ b, X % 2 = b := ⟨_, rfl⟩
      have hb01 : b = 0 ∨ b = 1 := by omega
      rw [hb] at eb hst
      have hXn := Lib.hid hX.2
      have hst' := Lib.hid hst
      have hX1 : Hid (b = 1 → 1 ≤ n) := Lib.hid (by omega)
      clear hY hb hst
      obtain ⟨hX0, hX9⟩ := hX
      by_cases hA : den ≤ 2 * R
      · have D2 := Lib.hid (hD2.1 hA)
        clear hD2
        rcases hb01 with rfl | rfl
        · have DX := Lib.hid (show Dv X num den (2 * Q + 1) (2 * R - den) by have := D2.out; rw [hst'.out, Int.add_zero]; exact this)
          clear D2
          (by_cases ho : 2199023255552 < 2 * Q + 1; ((have hres := Lib.hid (HO.out (by have := HOv.out _ _ _ hXn.out DX.out; omega)); clear HO HU HN1 HMo HOv; go_wp2; go_ret2; exact ⟨by rw [hres.out.1, hres.out.2]; rfl, rfl⟩)); (have ho2 : 2 * Q + 1 ≤ 2199023255552 := (by omega); have DXk := Lib.hid (show Dv (n / 2 ^ (41 - (k + 1))) num den (2 * Q + 1) (2 * R - den) by rw [hnx, EX.out]; exact DX.out); have hr8 := DX.out.2.2; clear HO HU HN1 HMo HOv hnx DX; go_wp2; (go_round; (case rel => exact ⟨k + 1, _, _, by omega, DXk, by omega, by omega, by omega, by omega, rfl, rfl, rfl⟩); (case measure => simp [intOf]; omega))))
        · by_cases hM : 2199023255552 < M
          · (have hres := Lib.hid (HO.out (by have := HN1.out (hX1.out rfl); omega)); clear HO HU HN1 HMo HOv; go_wp2; go_ret2; exact ⟨by rw [hres.out.1, hres.out.2]; rfl, rfl⟩)
          · have hE := HMo.out _ _ _ D2.out
            by_cases hB : den ≤ 2 * R - den + m
            · have DX := Lib.hid (show Dv X num den (2 * Q + 1 + M + 1) (2 * R - den + m - den) by rw [hst'.out]; exact hE.1 hB)
              clear D2 hE
              (by_cases ho : 2199023255552 < 2 * Q + 1 + M + 1; ((have hres := Lib.hid (HO.out (by have := HOv.out _ _ _ hXn.out DX.out; omega)); clear HO HU HN1 HMo HOv; go_wp2; go_ret2; exact ⟨by rw [hres.out.1, hres.out.2]; rfl, rfl⟩)); (have ho2 : 2 * Q + 1 + M + 1 ≤ 2199023255552 := (by omega); have DXk := Lib.hid (show Dv (n / 2 ^ (41 - (k + 1))) num den (2 * Q + 1 + M + 1) (2 * R - den + m - den) by rw [hnx, EX.out]; exact DX.out); have hr8 := DX.out.2.2; clear HO HU HN1 HMo HOv hnx DX; go_wp2; (go_round; (case rel => exact ⟨k + 1, _, _, by omega, DXk, by omega, by omega, by omega, by omega, rfl, rfl, rfl⟩); (case measure => simp [intOf]; omega))))
            · have DX := Lib.hid (show Dv X num den (2 * Q + 1 + M) (2 * R - den + m) by rw [hst'.out]; exact hE.2 (by omega))
              clear D2 hE
              (by_cases ho : 2199023255552 < 2 * Q + 1 + M; ((have hres := Lib.hid (HO.out (by have := HOv.out _ _ _ hXn.out DX.out; omega)); clear HO HU HN1 HMo HOv; go_wp2; go_ret2; exact ⟨by rw [hres.out.1, hres.out.2]; rfl, rfl⟩)); (have ho2 : 2 * Q + 1 + M ≤ 2199023255552 := (by omega); have DXk := Lib.hid (show Dv (n / 2 ^ (41 - (k + 1))) num den (2 * Q + 1 + M) (2 * R - den + m) by rw [hnx, EX.out]; exact DX.out); have hr8 := DX.out.2.2; clear HO HU HN1 HMo HOv hnx DX; go_wp2; (go_round; (case rel => exact ⟨k + 1, _, _, by omega, DXk, by omega, by omega, by omega, by omega, rfl, rfl, rfl⟩); (case measure => simp [intOf]; omega))))
      · have hA2 : 2 * R < den := by omega
        have D2 := Lib.hid (hD2.2 hA2)
        clear hD2
        rcases hb01 with rfl | rfl
        · have DX := Lib.hid (show Dv X num den (2 * Q) (2 * R) by have := D2.out; rw [hst'.out, Int.add_zero]; exact this)
          clear D2
          (by_cases ho : 2199023255552 < 2 * Q; ((have hres := Lib.hid (HO.out (by have := HOv.out _ _ _ hXn.out DX.out; omega)); clear HO HU HN1 HMo HOv; go_wp2; go_ret2; exact ⟨by rw [hres.out.1, hres.out.2]; rfl, rfl⟩)); (have ho2 : 2 * Q ≤ 2199023255552 := (by omega); have DXk := Lib.hid (show Dv (n / 2 ^ (41 - (k + 1))) num den (2 * Q) (2 * R) by rw [hnx, EX.out]; exact DX.out); have hr8 := DX.out.2.2; clear HO HU HN1 HMo HOv hnx DX; go_wp2; (go_round; (case rel => exact ⟨k + 1, _, _, by omega, DXk, by omega, by omega, by omega, by omega, rfl, rfl, rfl⟩); (case measure => simp [intOf]; omega))))
        · by_cases hM : 2199023255552 < M
          · (have hres := Lib.hid (HO.out (by have := HN1.out (hX1.out rfl); omega)); clear HO HU HN1 HMo HOv; go_wp2; go_ret2; exact ⟨by rw [hres.out.1, hres.out.2]; rfl, rfl⟩)
          · have hE := HMo.out _ _ _ D2.out
            by_cases hB : den ≤ 2 * R + m
            · have DX := Lib.hid (show Dv X num den (2 * Q + M + 1) (2 * R + m - den) by rw [hst'.out]; exact hE.1 hB)
              clear D2 hE
              (by_cases ho : 2199023255552 < 2 * Q + M + 1; ((have hres := Lib.hid (HO.out (by have := HOv.out _ _ _ hXn.out DX.out; omega)); clear HO HU HN1 HMo HOv; go_wp2; go_ret2; exact ⟨by rw [hres.out.1, hres.out.2]; rfl, rfl⟩)); (have ho2 : 2 * Q + M + 1 ≤ 2199023255552 := (by omega); have DXk := Lib.hid (show Dv (n / 2 ^ (41 - (k + 1))) num den (2 * Q + M + 1) (2 * R + m - den) by rw [hnx, EX.out]; exact DX.out); have hr8 := DX.out.2.2; clear HO HU HN1 HMo HOv hnx DX; go_wp2; (go_round; (case rel => exact ⟨k + 1, _, _, by omega, DXk, by omega, by omega, by omega, by omega, rfl, rfl, rfl⟩); (case measure => simp [intOf]; omega))))
            · have DX := Lib.hid (show Dv X num den (2 * Q + M) (2 * R + m) by rw [hst'.out]; exact hE.2 (by omega))
              clear D2 hE
              (by_cases ho : 2199023255552 < 2 * Q + M; ((have hres := Lib.hid (HO.out (by have := HOv.out _ _ _ hXn.out DX.out; omega)); clear HO HU HN1 HMo HOv; go_wp2; go_ret2; exact ⟨by rw [hres.out.1, hres.out.2]; rfl, rfl⟩)); (have ho2 : 2 * Q + M ≤ 2199023255552 := (by omega); have DXk := Lib.hid (show Dv (n / 2 ^ (41 - (k + 1))) num den (2 * Q + M) (2 * R + m) by rw [hnx, EX.out]; exact DX.out); have hr8 := DX.out.2.2; clear HO HU HN1 HMo HOv hnx DX; go_wp2; (go_round; (case rel => exact ⟨k + 1, _, _, by omega, DXk, by omega, by omega, by omega, by omega, rfl, rfl, rfl⟩); (case measure => simp [intOf]; omega))))
    · obtain rfl : k = 41 := by omega
      have hD0 := hDv.out
      rw [Nat.sub_self, Int.pow_zero, Int.ediv_one] at hD0
      have hres := Lib.hid (HU.out (by rw [hD0.1]; omega))
      rw [hD0.1, hD0.2.1] at hres
      clear hD0 hDv
      go_wp2
      go_ret2
      exact ⟨by rw [hres.out.1, hres.out.2]; rfl, rfl⟩
end Go.Proofs.YtgnmjopifdekiaaDoor
