/-
  Days: the reference's First, Day; Tenor.
-/
import Derived.Test.YtpgldnjejnigiaaDoorI
namespace Go.Proofs.YtpgldnjejnigiaaDoor
open Go.RowKit

theorem firstW (y : Int) (N : Nat) (w : World) (hy : y = 2000 + N) (hN : N ≤ 3000) :
    Calls Tryd.prog 55 #[.int .i64 y] w fun e w' => e = .returned (.int .i64 (firstN N)) ∧ w = w' := by
  have hy1 : y ≤ 2000 + (N : Int) := by omega
  have hy2 : 2000 + (N : Int) ≤ y := by omega
  clear hy
  go_enter Tryd.func55, Tryd.ntmps55
  go_wp2
  go_loop [3, 4] (fun dd z => ∃ n : Nat, n ≤ N ∧ z = .int .i64 (2000 + n) ∧ dd = .int .i64 (firstN n)) (fun _ z => (y - intOf z).toNat)
  case atStart => exact ⟨0, by omega, rfl, rfl⟩
  case round =>
    obtain ⟨n, hn, rfl, rfl⟩ := hrel
    have hF := firstN_range n
    obtain ⟨f0, f1⟩ := hF
    by_cases hlt : n < N
    · have hD := fun w => refYearW (2000 + n) w (by omega) (by omega)
      have hDr := yearL_range (2000 + n)
      have hf := Lib.hid (show firstN (n + 1) = firstN n + yearL (2000 + n) from rfl)
      generalize yearL (2000 + n) = Y at *
      generalize firstN n = F at *
      obtain ⟨g0, g1⟩ := hDr
      have hlI : 2000 + (n : Int) < y := by omega
      go_wp2_with (go_at_call 39; refine (hD _).mono ?_; rintro e w' ⟨rfl, rfl⟩)
      go_round
      case rel => exact ⟨n + 1, by omega, by go_num, by rw [hf.out]⟩
      case measure => simp [intOf]; omega
    · obtain rfl : n = N := by omega
      have hlI : y ≤ 2000 + (n : Int) := by omega
      go_wp2
      go_ret
      exact ⟨rfl, rfl⟩
/-- the reference's, of a month from 0 on -/
def rfZ (y k o : Int) : Int × Bool := if 5000 < y then (0, false) else ofZ y k o
set_option maxHeartbeats 1000000 in
set_option maxRecDepth 100000 in
theorem refDayW (y k o m : Int) (w : World) (y0 : 0 ≤ y) (y1 : y ≤ 100000) (k0 : -1 ≤ k) (k1 : k ≤ 1000) (o0 : 0 ≤ o) (o1 : o ≤ 1000) (hmk : m = k + 1) :
    Calls Tryd.prog 38 #[.int .i64 y, .int .i64 m, .int .i64 o] w fun e w' => e = .returned (.tuple #[.int .i64 (rfZ y k o).1, .bool (rfZ y k o).2]) ∧ w = w' := by
  have m1 : m ≤ k + 1 := by omega
  have m2 : k + 1 ≤ m := by omega
  clear hmk
  by_cases hc : 2000 ≤ y ∧ y ≤ 5000 ∧ 0 ≤ k ∧ k < 12 ∧ 1 ≤ o
  · obtain ⟨c1, c5, c2, c3, c4⟩ := hc
    obtain ⟨k, rfl⟩ := Int.eq_ofNat_of_zero_le c2
    have hM := fun (j : Nat) (hj : j < 12) (m : Int) (hm : m = j + 1) w => refDaysW y j w y0 y1 hj m hm
    have hrf := Lib.hid (show rfZ y k o = ofZ y k o by unfold rfZ; rw [if_neg (by omega)])
    by_cases hle : o ≤ monL y k
    · have hok : ofOk y k o = true := by unfold ofOk; simp; omega
      have hz := Lib.hid (show ofZ y k o = (dayN y k o, isD (dayN y k o)) by unfold ofZ; rw [hok]; rfl)
      obtain ⟨N, hN⟩ : ∃ N : Nat, (y - 2000).toNat = N := ⟨_, rfl⟩
      have hyN := Lib.hid (show y = 2000 + (N : Int) by omega)
      have hdn := Lib.hid (show dayN y k o = o - 1 + firstN N + cumN y k by unfold dayN; rw [hN]; omega)
      have hF := fun w => firstW y N w hyN.out (by omega)
      obtain ⟨f0, f1⟩ := firstN_range N
      clear hok hN
      have hM0 := fun w => hM k (by omega) m (by omega) w
      have hMr := monL_range y k
      generalize monL y k = L at hle hM0 hMr
      obtain ⟨l0, l1⟩ := hMr
      have hN3 : N ≤ 3000 := by have := hyN.out; omega
      generalize firstN N = F at *
      go_enter Tryd.func38, Tryd.ntmps38
      go_wp2_with (first | (go_at_call 37; refine (hM0 _).mono ?_; rintro e w' ⟨rfl, rfl⟩) | (go_at_call 55; refine (hF _).mono ?_; rintro e w' ⟨rfl, rfl⟩))
      go_loop [8, 9] (fun dd z => ∃ j : Nat, j ≤ k ∧ z = .int .i64 (j + 1) ∧ dd = .int .i64 (o - 1 + F + cumN y j)) (fun _ z => (k + 1 - intOf z).toNat)
      case atStart => exact ⟨0, by omega, rfl, by simp [cumN]; omega⟩
      case round =>
        obtain ⟨j, hj, rfl, rfl⟩ := hrel
        obtain ⟨g0, g1⟩ := cumN_range y j
        by_cases hlt : j < k
        · have hM1 := fun w => hM j (by omega) _ rfl w
          have hM1r := monL_range y j
          have hf := Lib.hid (show cumN y (j + 1) = cumN y j + monL y j from rfl)
          generalize monL y j = Y at *
          generalize cumN y j = C at *
          obtain ⟨e0, e1⟩ := hM1r
          have hjm : (j : Int) + 1 < m := by omega
          go_wp2_with (go_at_call 37; refine (hM1 _).mono ?_; rintro e w' ⟨rfl, rfl⟩)
          go_round
          case rel => exact ⟨j + 1, by omega, by go_num, by rw [hf.out]; go_num⟩
          case measure => simp [intOf]; omega
        · obtain rfl : j = k := by omega
          have hE := Lib.hid (show dayN y j o = o - 1 + F + cumN y j from hdn.out)
          generalize cumN y j = C at *
          have hjm : m ≤ (j : Int) + 1 := by omega
          go_wp2_with (go_at_call 14; refine (refIsW _ _).mono ?_; rintro e w' ⟨rfl, rfl⟩)
          go_ret2
          rw [hrf.out, hz.out, hE.out]
          exact ⟨rfl, rfl⟩
    · have hok : ofOk y k o = false := by unfold ofOk; simp; omega
      have hz := Lib.hid (show rfZ y k o = (0, false) by rw [hrf.out]; unfold ofZ; rw [hok]; rfl)
      have hM0 := fun w => hM k (by omega) m (by omega) w
      clear hok hM
      generalize monL y k = L at *
      go_enter Tryd.func38, Tryd.ntmps38
      go_wp2_with (go_at_call 37; refine (hM0 _).mono ?_; rintro e w' ⟨rfl, rfl⟩)
      all_goals (go_ret2; rw [hz.out]; exact ⟨rfl, rfl⟩)
  · have hz := Lib.hid (show rfZ y k o = (0, false) by
      unfold rfZ
      by_cases h : 5000 < y
      · rw [if_pos h]
      · rw [if_neg h]
        have hok : ofOk y k o = false := by unfold ofOk; simp; omega
        unfold ofZ
        rw [hok]
        rfl)
    have HC := Lib.hid hc
    clear hc
    go_enter Tryd.func38, Tryd.ntmps38
    go_wp2_with (exfalso; have := HC.out; omega)
    all_goals (go_ret2; rw [hz.out]; exact ⟨rfl, rfl⟩)
end Go.Proofs.YtpgldnjejnigiaaDoor
