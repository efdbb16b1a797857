/-
  Days: the reference's Parse.
-/
import Derived.Test.YtpgldnjejnigiaaDoorNa
namespace Go.Proofs.YtpgldnjejnigiaaDoor
open Go.RowKit

def refNum (s : ByteArray) : Int := if rng digI s 0 s.size then num s 0 s.size else -1
theorem num_small (s : ByteArray) {k : Nat} (h : rng digI s 0 k = true) (hk : k ≤ 5) : 0 ≤ num s 0 k ∧ num s 0 k ≤ 99999 := by
  have h1 := num_range s 0 k h
  rcases (by omega : k = 0 ∨ k = 1 ∨ k = 2 ∨ k = 3 ∨ k = 4 ∨ k = 5) with rfl | rfl | rfl | rfl | rfl | rfl <;> omega
theorem rng_next {p : Int → Bool} {s : ByteArray} {a k : Nat} (h : rng p s a k = true) (h1 : p (byt s (a + k)) = true) : rng p s a (k + 1) = true := by
  rw [rng_iff] at h ⊢
  intro j h2 h3
  by_cases e : j = a + k
  · rw [e]; exact h1
  · exact h j h2 (by omega)
theorem rng_bad {p : Int → Bool} {s : ByteArray} {a k n : Nat} (hk : k < n) (h1 : p (byt s (a + k)) = false) : rng p s a n = false := by
  rw [← Bool.not_eq_true, rng_iff]
  intro h
  rw [h (a + k) (by omega) (by omega)] at h1
  cases h1
set_option maxHeartbeats 1000000 in
theorem refNumberW (s : ByteArray) (w : World) (h6 : s.size ≤ 5) :
    Calls Tryd.prog 52 #[.string s] w fun e w' => e = .returned (.int .i64 (refNum s)) ∧ w = w' := by
  go_enter Tryd.func52, Tryd.ntmps52
  go_wp2
  go_loop [3, 4] (fun n i => ∃ k : Nat, k ≤ s.size ∧ i = .int .i64 k ∧ n = .int .i64 (num s 0 k) ∧ Hid (rng digI s 0 k = true)) (fun _ i => s.size - (intOf i).toNat)
  case atStart => exact ⟨0, by omega, rfl, rfl, Lib.hid rfl⟩
  case round =>
    obtain ⟨k, hk, rfl, rfl, hq⟩ := hrel
    have hns := num_small s hq.out (by omega)
    by_cases hlt : k < s.size
    · have hu := s[k].toNat_lt
      have hb := byt_get s k hlt
      have hst : num s 0 (k + 1) = num s 0 k * 10 + val (byt s k) := by rw [num, Nat.zero_add]
      obtain ⟨N, hN⟩ : ∃ N, num s 0 k = N := ⟨_, rfl⟩
      rw [hN] at hns hst
      rw [hN]
      obtain ⟨n0, n1⟩ := hns
      cases hd : digI (byt s k) with
      | true =>
        have hst2 := Lib.hid (show num s 0 (k + 1) = 10 * N + ((s[k].toNat : Int) - 48) by rw [hst, val_dig hd, hb]; omega)
        have hq2 := Lib.hid (rng_next hq.out (by rw [Nat.zero_add]; exact hd))
        rw [hb] at hd
        unfold digI at hd
        simp at hd
        obtain ⟨c0, c1⟩ := hd
        clear hst hb hN
        go_wp2
        all_goals
          go_round
          case rel => exact ⟨k + 1, by omega, by go_num, by rw [hst2.out], hq2⟩
          case measure => simp [intOf]; omega
      | false =>
        have he := Lib.hid (show refNum s = -1 by unfold refNum; rw [rng_bad hlt (by rw [Nat.zero_add]; exact hd)]; rfl)
        rw [hb] at hd
        unfold digI at hd
        simp at hd
        clear hst hb hN
        by_cases c0 : (s[k].toNat : Int) < 48
        · clear hd
          go_wp2
          all_goals (go_ret; rw [he.out]; exact ⟨rfl, rfl⟩)
        · have c1 : (57 : Int) < s[k].toNat := by omega
          clear hd
          go_wp2
          all_goals (go_ret; rw [he.out]; exact ⟨rfl, rfl⟩)
    · obtain rfl : k = s.size := by omega
      have he := Lib.hid (show refNum s = num s 0 s.size by unfold refNum; rw [hq.out]; rfl)
      generalize num s 0 s.size = N at *
      go_wp2
      go_ret
      rw [he.out]
      exact ⟨rfl, rfl⟩
theorem refNumX (s : ByteArray) (a b n : Nat) (hb : b ≤ s.size) (hn : b - a = n) (h6 : n ≤ 5) (w : World) :
    Calls Tryd.prog 52 #[.string (s.extract a b)] w fun e w' => e = .returned (.int .i64 (if rng digI s a n then num s a n else -1)) ∧ w = w' := by
  have hz := size_extract s a b hb
  have := refNumberW (s.extract a b) w (by omega)
  unfold refNum at this
  rw [rng_extract digI s a b hb, hz, hn, num_extract s a b hb n (by omega)] at this
  exact this
theorem form_not {s : ByteArray} (h : ¬ (s.size = 10 ∧ byt s 4 = 45 ∧ byt s 7 = 45 ∧ rng digI s 0 4 = true ∧ rng digI s 5 2 = true ∧ rng digI s 8 2 = true)) : formB s = false := by
  rw [← Bool.not_eq_true, form_iff]
  exact h
theorem par_ref {s : ByteArray} (h : formB s = true) (h9 : num s 0 4 ≤ 9999) (h8 : 0 ≤ num s 8 2) {z : Int × Bool} (hz : rfZ (num s 0 4) (num s 5 2 - 1) (num s 8 2) = z) : (z.2 = true ∧ parD s = some z.1 ∧ parE s = 0) ∨ (z.2 = false ∧ parD s = none ∧ parE s = 3) := by
  unfold rfZ at hz
  by_cases h5 : 5000 < num s 0 4
  · rw [if_pos h5] at hz
    rcases par_of h rfl with ⟨e1, -, -⟩ | ⟨-, e2, e3⟩
    · exfalso
      unfold ofZ at e1
      cases ho : ofOk (num s 0 4) (num s 5 2 - 1) (num s 8 2) with
      | false => rw [ho] at e1; cases e1
      | true =>
        rw [ho] at e1
        have : 1 ≤ num s 8 2 := by unfold ofOk at ho; simp at ho; omega
        have h2 := dayN_far (y := num s 0 4) (num s 5 2 - 1).toNat (by omega) this
        change isD _ = true at e1
        rw [h2] at e1
        cases e1
    · rw [← hz]
      exact .inr ⟨rfl, e2, e3⟩
  · rw [if_neg h5] at hz
    exact par_of h hz
set_option maxHeartbeats 1000000 in
set_option maxRecDepth 100000 in
theorem refParseW (s : ByteArray) (w : World) (hs : s.size ≤ maxLen) :
    Calls Tryd.prog 32 #[.string s] w fun e w' => e = .returned (.tuple #[.int .i64 ((parD s).getD 0), .int .i64 (parE s)]) ∧ Below w.heap.size w w' := by
  unfold maxLen at hs
  by_cases hz : s.size = 10
  · have h1 := fun w => refNumX s 0 4 4 (by omega) rfl (by omega) w
    have h2 := fun w => refNumX s 5 7 2 (by omega) rfl (by omega) w
    have h3 := fun w => refNumX s 8 s.size 2 (by omega) (by omega) (by omega) w
    have hzI : (s.size : Int) = 10 := by omega
    have hz8 : 8 ≤ s.size := by omega
    have hz7 : 7 ≤ s.size := by omega
    have hz4 : 4 ≤ s.size := by omega
    have hl4 : 4 < s.size := by omega
    have hl7 : 7 < s.size := by omega
    have b4 := byt_get s 4 hl4
    have b7 := byt_get s 7 hl7
    by_cases hgood : byt s 4 = 45 ∧ byt s 7 = 45 ∧ rng digI s 0 4 = true ∧ rng digI s 5 2 = true ∧ rng digI s 8 2 = true
    · obtain ⟨h4, h7, r0, r5, r8⟩ := hgood
      have hf := (form_iff s).2 ⟨hz, h4, h7, r0, r5, r8⟩
      have n0 := num_range s 0 4 r0
      have n5 := num_range s 5 2 r5
      have n8 := num_range s 8 2 r8
      rw [r0, if_pos rfl] at h1
      rw [r5, if_pos rfl] at h2
      rw [r8, if_pos rfl] at h3
      have n0a : num s 0 4 ≤ 9999 := by omega
      have n5a : num s 5 2 ≤ 99 := by omega
      have n8a : num s 8 2 ≤ 99 := by omega
      have n0b := n0.1
      have n5b := n5.1
      have n8b := n8.1
      have hO := fun w => refDayW (num s 0 4) (num s 5 2 - 1) (num s 8 2) (num s 5 2) w n0b (by omega) (by omega) (by omega) n8b (by omega) (by omega)
      have hP := par_ref hf n0a n8b rfl
      have c4 : (s[4].toNat : Int) = 45 := by omega
      have c7 : (s[7].toNat : Int) = 45 := by omega
      clear hf h4 h7 r0 r5 r8 hz n0 n5 n8 b4 b7
      generalize rfZ (num s 0 4) (num s 5 2 - 1) (num s 8 2) = Z at *
      generalize num s 0 4 = Y at *
      generalize num s 5 2 = M at *
      generalize num s 8 2 = O at *
      obtain ⟨z1, z2⟩ := Z
      have d0 : decide (Y < 0) = false := decide_eq_false (by omega)
      have d5 : decide (M < 0) = false := decide_eq_false (by omega)
      have d8 : decide (O < 0) = false := decide_eq_false (by omega)
      rcases hP with ⟨rfl, e1, e2⟩ | ⟨rfl, e1, e2⟩
      all_goals
        have E1 := Lib.hid e1
        have E2 := Lib.hid e2
        clear e1 e2
        go_enter Tryd.func32, Tryd.ntmps32
        go_wp2_with (first | (go_at_call 52; (with_reducible refine (h1 _).mono ?_); rintro e w' ⟨rfl, rfl⟩) | (go_at_call 52; (with_reducible refine (h2 _).mono ?_); rintro e w' ⟨rfl, rfl⟩) | (go_at_call 52; (with_reducible refine (h3 _).mono ?_); rintro e w' ⟨rfl, rfl⟩))
        go_region_held3 (fun _ => True)
          (first | trivial)
          (first | (go_at_call 52; (with_reducible refine (h1 _).mono ?_); rintro e w' ⟨rfl, rfl⟩) | (go_at_call 52; (with_reducible refine (h2 _).mono ?_); rintro e w' ⟨rfl, rfl⟩) | (go_at_call 52; (with_reducible refine (h3 _).mono ?_); rintro e w' ⟨rfl, rfl⟩) | (go_at_call 38; (with_reducible refine (hO _).mono ?_); rintro e w' ⟨rfl, rfl⟩))
        all_goals go_wp2_with fail
        all_goals (go_ret2; rw [E1.out, E2.out]; exact ⟨rfl, by (repeat' first | exact Below.refl _ _ | (with_reducible assumption) | (with_reducible refine bAlloc (by first | omega | (simp <;> omega)) ?_) | (with_reducible refine bSet (by first | omega | (simp <;> omega)) ?_) | (with_reducible refine bDrew ?_) | (with_reducible refine bDrewN ?_) | (with_reducible refine bTrans (by with_reducible assumption) (by first | omega | (simp <;> omega)) ?_))⟩)
    · obtain ⟨e1, e2⟩ := par_no (form_not (s := s) (fun h => hgood h.2))
      have E1 := Lib.hid e1
      have E2 := Lib.hid e2
      clear e1 e2
      by_cases h4 : byt s 4 = 45
      · by_cases h7 : byt s 7 = 45
        · have c4 : (s[4].toNat : Int) = 45 := by omega
          have c7 : (s[7].toNat : Int) = 45 := by omega
          have n0 := fun h => (num_range s 0 4 h).1
          have n5 := fun h => (num_range s 5 2 h).1
          have n8 := fun h => (num_range s 8 2 h).1
          cases r0 : rng digI s 0 4
          all_goals cases r5 : rng digI s 5 2
          all_goals cases r8 : rng digI s 8 2
          rotate_right
          · exact absurd ⟨h4, h7, r0, r5, r8⟩ hgood
          all_goals
            simp only [r0, r5, r8, if_true, Bool.false_eq_true, if_false] at h1 h2 h3
            try (have m0 : decide (num s 0 4 < 0) = false := decide_eq_false (by have := n0 r0; omega))
            try (have m5 : decide (num s 5 2 < 0) = false := decide_eq_false (by have := n5 r5; omega))
            try (have m8 : decide (num s 8 2 < 0) = false := decide_eq_false (by have := n8 r8; omega))
            clear r0 r5 r8 n0 n5 n8 hgood b4 b7 h4 h7 hz
            go_enter Tryd.func32, Tryd.ntmps32
            go_wp2_with (first | (go_at_call 52; (with_reducible refine (h1 _).mono ?_); rintro e w' ⟨rfl, rfl⟩) | (go_at_call 52; (with_reducible refine (h2 _).mono ?_); rintro e w' ⟨rfl, rfl⟩) | (go_at_call 52; (with_reducible refine (h3 _).mono ?_); rintro e w' ⟨rfl, rfl⟩))
            all_goals (go_ret2; rw [E1.out, E2.out]; exact ⟨rfl, by (repeat' first | exact Below.refl _ _ | (with_reducible assumption) | (with_reducible refine bAlloc (by first | omega | (simp <;> omega)) ?_) | (with_reducible refine bSet (by first | omega | (simp <;> omega)) ?_) | (with_reducible refine bDrew ?_) | (with_reducible refine bDrewN ?_) | (with_reducible refine bTrans (by with_reducible assumption) (by first | omega | (simp <;> omega)) ?_))⟩)
        · have c4 : (s[4].toNat : Int) = 45 := by omega
          have c7 : ((s[7].toNat : Int) != 45) = true := by simp; omega
          clear hgood b4 b7 h4 h7 h1 h2 h3
          go_enter Tryd.func32, Tryd.ntmps32
          go_wp2
          all_goals (go_ret2; rw [E1.out, E2.out]; exact ⟨rfl, by (repeat' first | exact Below.refl _ _ | (with_reducible assumption) | (with_reducible refine bAlloc (by first | omega | (simp <;> omega)) ?_) | (with_reducible refine bSet (by first | omega | (simp <;> omega)) ?_) | (with_reducible refine bDrew ?_) | (with_reducible refine bDrewN ?_) | (with_reducible refine bTrans (by with_reducible assumption) (by first | omega | (simp <;> omega)) ?_))⟩)
      · have c4 : ((s[4].toNat : Int) != 45) = true := by simp; omega
        clear hgood b4 b7 h4 h1 h2 h3
        go_enter Tryd.func32, Tryd.ntmps32
        go_wp2
        all_goals (go_ret2; rw [E1.out, E2.out]; exact ⟨rfl, by (repeat' first | exact Below.refl _ _ | (with_reducible assumption) | (with_reducible refine bAlloc (by first | omega | (simp <;> omega)) ?_) | (with_reducible refine bSet (by first | omega | (simp <;> omega)) ?_) | (with_reducible refine bDrew ?_) | (with_reducible refine bDrewN ?_) | (with_reducible refine bTrans (by with_reducible assumption) (by first | omega | (simp <;> omega)) ?_))⟩)
  · obtain ⟨e1, e2⟩ := par_no (form_not (s := s) (fun h => hz h.1))
    have E1 := Lib.hid e1
    have E2 := Lib.hid e2
    have hzI : ((s.size : Int) != 10) = true := by simp; omega
    clear hz e1 e2
    go_enter Tryd.func32, Tryd.ntmps32
    go_wp2
    all_goals (go_ret2; rw [E1.out, E2.out]; exact ⟨rfl, by (repeat' first | exact Below.refl _ _ | (with_reducible assumption) | (with_reducible refine bAlloc (by first | omega | (simp <;> omega)) ?_) | (with_reducible refine bSet (by first | omega | (simp <;> omega)) ?_) | (with_reducible refine bDrew ?_) | (with_reducible refine bDrewN ?_) | (with_reducible refine bTrans (by with_reducible assumption) (by first | omega | (simp <;> omega)) ?_))⟩)
end Go.Proofs.YtpgldnjejnigiaaDoor
