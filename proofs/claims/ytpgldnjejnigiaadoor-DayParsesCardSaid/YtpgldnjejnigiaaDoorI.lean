/-
  Days: Month, of, Tenor, walked; the reference's.
-/
import Derived.Test.YtpgldnjejnigiaaDoorH
namespace Go.Proofs.YtpgldnjejnigiaaDoor
open Go.RowKit

theorem year_bound {n : Nat} {D : Int} (h0 : 0 ≤ D) (h : D + 365 * n ≤ 1048576) : n < 2900 := by omega
theorem mon_lt {y : Int} {m : Nat} {E : Int} (h0 : 0 ≤ E) (hk : m ≤ 12) (h : E + cumN y m < yearL y) : m < 12 := by
  rcases Nat.lt_or_ge m 12 with h1 | h1
  · exact h1
  · obtain rfl : m = 12 := by omega
    have := cumN_12 y
    omega
set_option maxHeartbeats 1000000 in
theorem monthWy (d : Int) (w : World) (hd : isD d = true) (hT : Mt w) :
    Calls Tryd.prog 11 #[.int .i64 d] w fun e w' => e = .returned (.tuple #[.int .i64 (2000 + (ymd d).n), .int .i64 ((ymd d).m + 1), .int .i64 ((ymd d).o + 1)]) ∧ w = w' := by
  have hI := fun w => isW d w
  rw [hd] at hI
  have hr : 0 ≤ d ∧ d ≤ 1048576 := isD_iff.1 hd
  obtain ⟨r0, r1⟩ := hr
  clear hd
  go_enter Tryd.func11, Tryd.ntmps11
  go_wp2_with (go_at_call 33; refine (hI _).mono ?_; rintro e w' ⟨rfl, rfl⟩)
  go_loop [0, 5] (fun dd yy => ∃ (k n : Nat) (D : Int), dd = .int .i64 D ∧ yy = .int .i64 (2000 + n) ∧ 0 ≤ D ∧ D ≤ 1048576 ∧ D < 365 * k ∧ D + 365 * n ≤ 1048576 ∧ Hid (yF k n D = yF 3000 0 d)) (fun dd _ => (intOf dd).toNat)
  case atStart => exact ⟨3000, 0, d, rfl, rfl, r0, r1, by omega, by omega, Lib.hid rfl⟩
  case round =>
    obtain ⟨k, n, D, rfl, rfl, hD0, hD1, hDk, hDn, hq⟩ := hrel
    have hn := year_bound hD0 hDn
    have hL := fun w => daysW (2000 + n) w (by omega) (by omega)
    have hLr := yearL_range (2000 + n)
    by_cases hlt : yearL (2000 + n) ≤ D
    · obtain ⟨k', -, hk', hy⟩ := yF_on hDk hlt
      have hy := Lib.hid hy
      generalize yearL (2000 + n) = L at *
      obtain ⟨l0, l1⟩ := hLr
      go_wp2_with (go_at_call 34; refine (hL _).mono ?_; rintro e w' ⟨rfl, rfl⟩)
      go_round
      case rel => exact ⟨k', n + 1, D - L, rfl, by go_num, by omega, by omega, hk', by omega, Lib.hid (by rw [← hq.out, hy.out])⟩
      case measure => simp [intOf]; omega
    · have hy := yF_off (k := k) hlt
      have hY : yF 3000 0 d = (n, D) := by rw [← hq.out, hy]
      have hE := Lib.hid (show ymd d = ⟨n, (mF (2000 + n) 12 0 D).1, (mF (2000 + n) 12 0 D).2⟩ by unfold ymd; rw [hY])
      have hlt' : D < yearL (2000 + n) := by omega
      clear hy hY hq hLr
      have HY := Lib.hid hlt'
      generalize yearL (2000 + n) = L at hL hlt hlt'
      clear hlt
      go_wp2_with (go_at_call 34; refine (hL _).mono ?_; rintro e w' ⟨rfl, rfl⟩)
      go_loop [0, 6] (fun dd kk => ∃ (k m : Nat) (E : Int), dd = .int .i64 E ∧ kk = .int .i64 m ∧ 0 ≤ E ∧ E ≤ 1048576 ∧ k + m = 12 ∧ Hid (E + cumN (2000 + n) m < yearL (2000 + n)) ∧ Hid (mF (2000 + n) k m E = mF (2000 + n) 12 0 D)) (fun dd _ => (intOf dd).toNat)
      case atStart => exact ⟨12, 0, D, rfl, rfl, hD0, hD1, rfl, Lib.hid (by have := HY.out; show D + 0 < _; omega), Lib.hid rfl⟩
      case round =>
        obtain ⟨k2, m, E, rfl, rfl, hE0, hE1, hkm, hc, hq⟩ := hrel
        have hm := mon_lt hE0 (by omega) hc.out
        have hM := fun w => monthW (2000 + n) m w (by omega) (by omega) hm
        have hMr := monL_range (2000 + n) m
        have HK := Lib.hid hkm
        clear hkm
        by_cases hle : monL (2000 + n) m ≤ E
        · obtain ⟨k', -, hk', hc', hm', hy⟩ := mF_on HK.out hc.out hle
          have hy := Lib.hid hy
          have hc' := Lib.hid hc'
          have hk' := Lib.hid hk'
          generalize monL (2000 + n) m = L2 at *
          obtain ⟨l0, l1⟩ := hMr
          go_wp2_with (go_at_call 35; refine (hM _ hT).mono ?_; rintro e w' ⟨rfl, rfl⟩)
          go_round
          case rel => exact ⟨k', m + 1, E - L2, rfl, by go_num, by omega, by omega, hk'.out, hc', Lib.hid (by rw [← hq.out, hy.out])⟩
          case measure => simp [intOf]; omega
        · have hy := mF_off (k := k2) hle
          have hY := Lib.hid (show ymd d = ⟨n, m, E⟩ by rw [hE.out, ← hq.out, hy])
          clear hy
          generalize monL (2000 + n) m = L2 at *
          obtain ⟨l0, l1⟩ := hMr
          go_wp2_with (go_at_call 35; refine (hM _ hT).mono ?_; rintro e w' ⟨rfl, rfl⟩)
          go_ret3
          rw [hY.out]
          exact ⟨rfl, rfl⟩
set_option maxHeartbeats 1000000 in
theorem refMonthW (d : Int) (w : World) (hd : isD d = true) :
    Calls Tryd.prog 15 #[.int .i64 d] w fun e w' => e = .returned (.tuple #[.int .i64 (2000 + (ymd d).n), .int .i64 ((ymd d).m + 1), .int .i64 ((ymd d).o + 1)]) ∧ w = w' := by
  have hr : 0 ≤ d ∧ d ≤ 1048576 := isD_iff.1 hd
  obtain ⟨r0, r1⟩ := hr
  clear hd
  go_enter Tryd.func15, Tryd.ntmps15
  go_wp2
  go_loop [0, 5] (fun dd yy => ∃ (k n : Nat) (D : Int), dd = .int .i64 D ∧ yy = .int .i64 (2000 + n) ∧ 0 ≤ D ∧ D ≤ 1048576 ∧ D < 365 * k ∧ D + 365 * n ≤ 1048576 ∧ Hid (yF k n D = yF 3000 0 d)) (fun dd _ => (intOf dd).toNat)
  case atStart => exact ⟨3000, 0, d, rfl, rfl, r0, r1, by omega, by omega, Lib.hid rfl⟩
  case round =>
    obtain ⟨k, n, D, rfl, rfl, hD0, hD1, hDk, hDn, hq⟩ := hrel
    have hn := year_bound hD0 hDn
    have hL := fun w => refYearW (2000 + n) w (by omega) (by omega)
    have hLr := yearL_range (2000 + n)
    by_cases hlt : yearL (2000 + n) ≤ D
    · obtain ⟨k', -, hk', hy⟩ := yF_on hDk hlt
      have hy := Lib.hid hy
      generalize yearL (2000 + n) = L at *
      obtain ⟨l0, l1⟩ := hLr
      go_wp2_with (go_at_call 39; refine (hL _).mono ?_; rintro e w' ⟨rfl, rfl⟩)
      go_round
      case rel => exact ⟨k', n + 1, D - L, rfl, by go_num, by omega, by omega, hk', by omega, Lib.hid (by rw [← hq.out, hy.out])⟩
      case measure => simp [intOf]; omega
    · have hy := yF_off (k := k) hlt
      have hY : yF 3000 0 d = (n, D) := by rw [← hq.out, hy]
      have hE := Lib.hid (show ymd d = ⟨n, (mF (2000 + n) 12 0 D).1, (mF (2000 + n) 12 0 D).2⟩ by unfold ymd; rw [hY])
      have hlt' : D < yearL (2000 + n) := by omega
      clear hy hY hq hLr
      have HY := Lib.hid hlt'
      generalize yearL (2000 + n) = L at hL hlt hlt'
      clear hlt
      go_wp2_with (go_at_call 39; refine (hL _).mono ?_; rintro e w' ⟨rfl, rfl⟩)
      go_loop [0, 6] (fun dd kk => ∃ (k m : Nat) (E : Int), dd = .int .i64 E ∧ kk = .int .i64 (m + 1) ∧ 0 ≤ E ∧ E ≤ 1048576 ∧ k + m = 12 ∧ Hid (E + cumN (2000 + n) m < yearL (2000 + n)) ∧ Hid (mF (2000 + n) k m E = mF (2000 + n) 12 0 D)) (fun dd _ => (intOf dd).toNat)
      case atStart => exact ⟨12, 0, D, rfl, rfl, hD0, hD1, rfl, Lib.hid (by have := HY.out; show D + 0 < _; omega), Lib.hid rfl⟩
      case round =>
        obtain ⟨k2, m, E, rfl, rfl, hE0, hE1, hkm, hc, hq⟩ := hrel
        have hm := mon_lt hE0 (by omega) hc.out
        have hM := fun w => refDaysW (2000 + n) m w (by omega) (by omega) hm _ rfl
        have hMr := monL_range (2000 + n) m
        have HK := Lib.hid hkm
        clear hkm
        by_cases hle : monL (2000 + n) m ≤ E
        · obtain ⟨k', -, hk', hc', hm', hy⟩ := mF_on HK.out hc.out hle
          have hy := Lib.hid hy
          have hc' := Lib.hid hc'
          have hk' := Lib.hid hk'
          generalize monL (2000 + n) m = L2 at *
          obtain ⟨l0, l1⟩ := hMr
          go_wp2_with (go_at_call 37; refine (hM _).mono ?_; rintro e w' ⟨rfl, rfl⟩)
          go_round
          case rel => exact ⟨k', m + 1, E - L2, rfl, by go_num, by omega, by omega, hk'.out, hc', Lib.hid (by rw [← hq.out, hy.out])⟩
          case measure => simp [intOf]; omega
        · have hy := mF_off (k := k2) hle
          have hY := Lib.hid (show ymd d = ⟨n, m, E⟩ by rw [hE.out, ← hq.out, hy])
          clear hy
          generalize monL (2000 + n) m = L2 at *
          obtain ⟨l0, l1⟩ := hMr
          go_wp2_with (go_at_call 37; refine (hM _).mono ?_; rintro e w' ⟨rfl, rfl⟩)
          go_ret3
          rw [hY.out]
          exact ⟨rfl, rfl⟩
theorem monthNo (d : Int) (w : World) (hd : isD d = false) : Calls Tryd.prog 11 #[.int .i64 d] w fun e w' => e = .returned (.tuple #[.int .i64 0, .int .i64 0, .int .i64 0]) ∧ w = w' := by
  have hI := fun w => isW d w
  rw [hd] at hI
  clear hd
  go_enter Tryd.func11, Tryd.ntmps11
  go_wp2_with (go_at_call 33; refine (hI _).mono ?_; rintro e w' ⟨rfl, rfl⟩)
  go_ret3
  exact ⟨rfl, rfl⟩
/-! ### of -/
set_option maxHeartbeats 1000000 in
set_option maxRecDepth 100000 in
theorem ofW (y k o : Int) (w : World) (y0 : 0 ≤ y) (y1 : y ≤ 100000) (k0 : -1 ≤ k) (k1 : k ≤ 1000) (o0 : 0 ≤ o) (o1 : o ≤ 1000) (hT : Mt w) :
    Calls Tryd.prog 36 #[.int .i64 y, .int .i64 k, .int .i64 o] w fun e w' => e = .returned (.tuple #[.int .i64 (ofZ y k o).1, .bool (ofZ y k o).2]) ∧ w = w' := by
  by_cases hc : 2000 ≤ y ∧ 0 ≤ k ∧ k < 12 ∧ 1 ≤ o
  · obtain ⟨c1, c2, c3, c4⟩ := hc
    obtain ⟨k, rfl⟩ := Int.eq_ofNat_of_zero_le c2
    have hM := fun (m : Nat) (hm : m < 12) w (h : Mt w) => monthW y m w y0 y1 hm h
    by_cases hle : o ≤ monL y k
    · have hok : ofOk y k o = true := by unfold ofOk; simp; omega
      have hz := Lib.hid (show ofZ y k o = (dayN y k o, isD (dayN y k o)) by unfold ofZ; rw [hok]; rfl)
      obtain ⟨N, hN⟩ : ∃ N : Nat, (y - 2000).toNat = N := ⟨_, rfl⟩
      have hyN := Lib.hid (show y = 2000 + (N : Int) by omega)
      have hy1 : y ≤ 2000 + (N : Int) := by omega
      have hy2 : 2000 + (N : Int) ≤ y := by omega
      have hdn := Lib.hid (show dayN y k o = o - 1 + firstN N + cumN y k by unfold dayN; rw [hN]; omega)
      clear hok hN
      have hM0 := fun w h => hM k (by omega) w h
      have hMr := monL_range y k
      generalize monL y k = L at hle hM0 hMr
      obtain ⟨l0, l1⟩ := hMr
      go_enter Tryd.func36, Tryd.ntmps36
      go_wp2_with (go_at_call 35; refine (hM0 _ hT).mono ?_; rintro e w' ⟨rfl, rfl⟩)
      go_loop [8, 9] (fun dd z => ∃ n : Nat, n ≤ N ∧ z = .int .i64 (2000 + n) ∧ dd = .int .i64 (o - 1 + firstN n)) (fun _ z => (y - intOf z).toNat)
      case atStart => exact ⟨0, by omega, rfl, by simp [firstN]⟩
      case round =>
        obtain ⟨n, hn, rfl, rfl⟩ := hrel
        have hF := firstN_range n
        obtain ⟨f0, f1⟩ := hF
        by_cases hlt : n < N
        · have hD := fun w => daysW (2000 + n) w (by omega) (by omega)
          have hDr := yearL_range (2000 + n)
          have hf := Lib.hid (show firstN (n + 1) = firstN n + yearL (2000 + n) from rfl)
          generalize yearL (2000 + n) = Y at *
          generalize firstN n = F at *
          obtain ⟨g0, g1⟩ := hDr
          have hlI : 2000 + (n : Int) < y := by omega
          go_wp2_with (go_at_call 34; refine (hD _).mono ?_; rintro e w' ⟨rfl, rfl⟩)
          go_round
          case rel => exact ⟨n + 1, by omega, by go_num, by rw [hf.out]; go_num⟩
          case measure => simp [intOf]; omega
        · obtain rfl : n = N := by omega
          have hlI : y ≤ 2000 + (n : Int) := by omega
          generalize firstN n = F at *
          go_wp2
          go_loop [8, 10, 44] (fun dd _ z => ∃ m : Nat, m ≤ k ∧ z = .int .i64 m ∧ dd = .int .i64 (o - 1 + F + cumN y m)) (fun _ _ z => k - (intOf z).toNat)
          case atStart => exact ⟨0, by omega, rfl, by simp [cumN]⟩
          case round =>
            obtain ⟨m, hm, rfl, rfl⟩ := hrel
            obtain ⟨g0, g1⟩ := cumN_range y m
            by_cases hlt : m < k
            · have hM1 := fun w h => hM m (by omega) w h
              have hM1r := monL_range y m
              have hf := Lib.hid (show cumN y (m + 1) = cumN y m + monL y m from rfl)
              generalize monL y m = Y at *
              generalize cumN y m = C at *
              obtain ⟨e0, e1⟩ := hM1r
              go_wp2_with (go_at_call 35; refine (hM1 _ hT).mono ?_; rintro e w' ⟨rfl, rfl⟩)
              go_round
              case rel => exact ⟨m + 1, by omega, by go_num, by rw [hf.out]; go_num⟩
              case measure => simp [intOf]; omega
            · obtain rfl : m = k := by omega
              have hE := Lib.hid (show dayN y m o = o - 1 + F + cumN y m from hdn.out)
              generalize cumN y m = C at *
              go_wp2_with (go_at_call 33; refine (isW _ _).mono ?_; rintro e w' ⟨rfl, rfl⟩)
              go_ret2
              rw [hz.out, hE.out]
              exact ⟨rfl, rfl⟩
    · have hok : ofOk y k o = false := by unfold ofOk; simp; omega
      have hz := Lib.hid (show ofZ y k o = (0, false) by unfold ofZ; rw [hok]; rfl)
      have hM0 := fun w h => hM k (by omega) w h
      clear hok hM
      generalize monL y k = L at *
      go_enter Tryd.func36, Tryd.ntmps36
      go_wp2_with (go_at_call 35; refine (hM0 _ hT).mono ?_; rintro e w' ⟨rfl, rfl⟩)
      all_goals (go_ret2; rw [hz.out]; exact ⟨rfl, rfl⟩)
  · have hok : ofOk y k o = false := by unfold ofOk; simp; omega
    have hz := Lib.hid (show ofZ y k o = (0, false) by unfold ofZ; rw [hok]; rfl)
    have HC := Lib.hid hc
    clear hok hc
    go_enter Tryd.func36, Tryd.ntmps36
    go_wp2_with (exfalso; have := HC.out; omega)
    all_goals (go_ret2; rw [hz.out]; exact ⟨rfl, rfl⟩)
end Go.Proofs.YtpgldnjejnigiaaDoor
