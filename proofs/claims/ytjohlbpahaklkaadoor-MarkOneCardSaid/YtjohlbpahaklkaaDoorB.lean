/-
  Marks: sum and number.
-/
import Derived.Test.YtjohlbpahaklkaaDoorA
namespace Go.Proofs.YtjohlbpahaklkaaDoor
set_option linter.unusedVariables false
set_option linter.unusedSimpArgs false
open Go.RowKit

theorem val_dig' (c : Int) (h : digI c = true) : 0 ≤ val c ∧ val c ≤ 9 := by rw [val_dig h]; simp [digI] at h; omega
theorem val_low' (c : Int) (h : lowI c = true) : 1 ≤ val c ∧ val c ≤ 26 := by rw [val_low h]; simp [lowI] at h; omega
theorem num_bound (s : ByteArray) (a : Nat) : ∀ k, (∀ j, a ≤ j → j < a + k → digI (byt s j) = true) → 0 ≤ num s a k ∧ num s a k < 10 ^ k
  | 0, _ => by simp [num]
  | k + 1, h => by
    have h1 := num_bound s a k (fun j ha hj => h j ha (by omega))
    have h2 := val_dig' _ (h (a + k) (by omega) (by omega))
    rw [num, Int.pow_succ]
    omega
theorem pow_le6 (k : Nat) (h : k < 6) : (10 : Int) ^ k ≤ 100000 := by
  match k, h with
  | 0, _ | 1, _ | 2, _ | 3, _ | 4, _ | 5, _ => all_goals decide
set_option maxHeartbeats 400000 in
theorem numberW (s : ByteArray) (w : World) (hs : s.size ≤ 6) (hd : rng digI s 0 s.size = true) :
    Calls Tryd.prog 31 #[.string s] w fun e w' => e = .returned (.int .i64 (num s 0 s.size)) ∧ w = w' := by
  have hd := Lib.hid ((rng_iff digI s s.size 0).1 hd)
  go_enter Tryd.func31, Tryd.ntmps31
  go_wp2
  go_loop [3, 7] (fun n i => ∃ k : Nat, k ≤ s.size ∧ i = .int .i64 k ∧ n = .int .i64 (num s 0 k)) (fun _ i => s.size - (intOf i).toNat)
  case atStart => exact ⟨0, Nat.zero_le _, rfl, rfl⟩
  case round =>
    obtain ⟨k, hk, rfl, rfl⟩ := hrel
    by_cases hlt : k < s.size
    · have hv : digI (s[k].toNat : Int) = true := by rw [← byt_get]; exact hd.out k (by omega) (by omega)
      have hb := num_bound s 0 k (fun j ha hj => hd.out j ha (by omega))
      have hp := pow_le6 k (by omega)
      have h0 : 0 ≤ num s 0 k := hb.1
      have h1 : num s 0 k ≤ 99999 := by omega
      obtain ⟨h2, h3⟩ := val_dig' _ hv
      have hn := Lib.hid (show num s 0 (k + 1) = num s 0 k * 10 + val (s[k].toNat : Int) by rw [num, Nat.zero_add, byt_get])
      clear hb hp
      generalize num s 0 k = N at *
      go_wp2_with (go_at_call 35; refine (valW _ _ (Or.inr hv)).mono ?_; rintro e w' ⟨rfl, rfl⟩)
      all_goals first
        | (go_round
           case rel => go_light; exact ⟨k + 1, by omega, by go_num, by simp only [hn.out]⟩
           case measure => simp [intOf]; omega)
    · have e : k = s.size := by omega
      have e' := Lib.hid e
      clear e
      go_wp2
      all_goals (go_ret; go_light; refine ⟨ret_int ?_, rfl⟩; have e := e'.out; simp_all)

theorem head_low {s : ByteArray} (h : rng lowI s 0 4 = true) (k : Nat) (hk : k < 4) : lowI (byt s k) = true := (rng_iff lowI s 4 0).1 h k (by omega) (by omega)
theorem head_dig {s : ByteArray} (h : rng digI s 4 6 = true) (k : Nat) (h4 : 4 ≤ k) (hk : k < 10) : digI (byt s k) = true := (rng_iff digI s 6 4).1 h k h4 (by omega)
theorem head_val {s : ByteArray} (h1 : rng lowI s 0 4 = true) (h2 : rng digI s 4 6 = true) (k : Nat) (hk : k < 10) : (lowI (byt s k) = true ∨ digI (byt s k) = true) ∧ 0 ≤ val (byt s k) ∧ val (byt s k) ≤ 26 := by
  by_cases h : k < 4
  · have := head_low h1 k h
    have := val_low' _ this
    exact ⟨Or.inl (by assumption), by omega, by omega⟩
  · have := head_dig h2 k (by omega) hk
    have := val_dig' _ this
    exact ⟨Or.inr (by assumption), by omega, by omega⟩
theorem part_bound {s : ByteArray} (h1 : rng lowI s 0 4 = true) (h2 : rng digI s 4 6 = true) : ∀ k, k ≤ 10 → 0 ≤ part s k ∧ part s k ≤ 260 * k
  | 0, _ => by simp [part]
  | k + 1, hk => by
    have h3 := part_bound h1 h2 k (by omega)
    have h4 := (head_val h1 h2 k (by omega)).2
    rw [part]
    have h5 : val (byt s k) * (k + 1) ≤ val (byt s k) * 10 := Int.mul_le_mul_of_nonneg_left (by omega) h4.1
    have h6 : 0 ≤ val (byt s k) * (k + 1) := Int.mul_nonneg h4.1 (by omega)
    omega
theorem allLowX (s : ByteArray) (a b : Nat) (hb : b ≤ s.size) (hs : s.size ≤ maxLen) (w : World) :
    Calls Tryd.prog 26 #[.string (s.extract a b), .func (.func 27) #[] #[]] w fun e w' => e = .returned (.bool (rng lowI s a (b - a))) ∧ w = w' := by
  rw [← rng_extract lowI s a b hb]
  exact allLow _ _ (by rw [size_extract _ _ _ hb]; omega)
theorem allDigX (s : ByteArray) (a b : Nat) (hb : b ≤ s.size) (hs : s.size ≤ maxLen) (w : World) :
    Calls Tryd.prog 26 #[.string (s.extract a b), .func (.func 30) #[] #[]] w fun e w' => e = .returned (.bool (rng digI s a (b - a))) ∧ w = w' := by
  rw [← rng_extract digI s a b hb]
  exact allDig _ _ (by rw [size_extract _ _ _ hb]; omega)
set_option maxHeartbeats 400000 in
theorem sumW (s : ByteArray) (w : World) (hs : s.size ≤ maxLen) :
    Calls Tryd.prog 20 #[.string s] w fun e w' => e = .returned (.int .i64 (sumZ s)) ∧ w = w' := by
  by_cases hz : s.size < 10
  · unfold maxLen at hs
    have hzI : (s.size : Int) < 10 := by omega
    go_enter Tryd.func20, Tryd.ntmps20
    go_wp2
    all_goals (go_ret; go_light; refine ⟨ret_int ?_, rfl⟩; unfold sumZ headB; simp_all; try omega)
  have hA := allLowX s 0 4 (by omega) hs
  have hB := allDigX s 4 10 (by omega) hs
  unfold maxLen at hs
  have hzI : (10 : Int) ≤ s.size := by omega
  cases h1 : rng lowI s 0 4 with
  | false =>
    simp only [Nat.sub_zero, h1] at hA
    go_enter Tryd.func20, Tryd.ntmps20
    go_wp2_with (go_at_call 26; refine (hA _).mono ?_; rintro e w' ⟨rfl, rfl⟩)
    all_goals (go_ret; go_light; refine ⟨ret_int ?_, rfl⟩; unfold sumZ headB; simp_all; try omega)
  | true =>
  cases h2 : rng digI s 4 6 with
  | false =>
    simp only [Nat.sub_zero, h1] at hA
    simp only [Nat.reduceSub, h2] at hB
    go_enter Tryd.func20, Tryd.ntmps20
    go_wp2_with (first | (go_at_call 26; with_reducible refine (hA _).mono ?_; rintro e w' ⟨rfl, rfl⟩) | (go_at_call 26; refine (hB _).mono ?_; rintro e w' ⟨rfl, rfl⟩))
    all_goals (go_ret; go_light; refine ⟨ret_int ?_, rfl⟩; unfold sumZ headB; simp_all; try omega)
  | true =>
    simp only [Nat.sub_zero, h1] at hA
    simp only [Nat.reduceSub, h2] at hB
    have hr := Lib.hid (show sumZ s = part s 10 % 97 by unfold sumZ headB; rw [if_pos (by simp [h1, h2]; omega)])
    have H := Lib.hid (And.intro h1 h2)
    clear h1 h2
    go_enter Tryd.func20, Tryd.ntmps20
    go_wp2_with (first | (go_at_call 26; with_reducible refine (hA _).mono ?_; rintro e w' ⟨rfl, rfl⟩) | (go_at_call 26; refine (hB _).mono ?_; rintro e w' ⟨rfl, rfl⟩))
    go_loop [3, 20] (fun n i => ∃ k : Nat, k ≤ 10 ∧ i = .int .i64 k ∧ n = .int .i64 (part s k)) (fun _ i => 10 - (intOf i).toNat)
    case atStart => exact ⟨0, Nat.zero_le _, rfl, rfl⟩
    case round =>
      obtain ⟨k, hk, rfl, rfl⟩ := hrel
      by_cases hlt : k < 10
      · have hkz : k < s.size := by omega
        obtain ⟨hv, h3, h4⟩ := head_val H.out.1 H.out.2 k hlt
        obtain ⟨h0, hb⟩ := part_bound H.out.1 H.out.2 k hk
        have hn := Lib.hid (show part s (k + 1) = part s k + val (s[k].toNat : Int) * (k + 1) by rw [part, byt_get])
        rw [byt_get s k hkz] at hv h3 h4
        generalize part s k = N at *
        have h5 : val (s[k].toNat : Int) * (k + 1) ≤ val (s[k].toNat : Int) * 10 := Int.mul_le_mul_of_nonneg_left (by omega) h3
        have h6 : 0 ≤ val (s[k].toNat : Int) * (k + 1) := Int.mul_nonneg h3 (by omega)
        go_wp2_with (go_at_call 35; refine (valW _ _ hv).mono ?_; rintro e w' ⟨rfl, rfl⟩)
        all_goals first
          | (go_round
             case rel => go_light; exact ⟨k + 1, by omega, by go_num, by simp only [hn.out]⟩
             case measure => simp [intOf]; omega)
      · have e : k = 10 := by omega
        obtain ⟨h0, hb⟩ := part_bound H.out.1 H.out.2 k hk
        subst e
        go_wp2
        all_goals (go_ret; go_light; refine ⟨ret_int ?_, rfl⟩; have := hr.out; simp_all)
end Go.Proofs.YtjohlbpahaklkaaDoor
