/-
  Marks: the reference's sum, number and right.
-/
import Derived.Test.YtjohlbpahaklkaaDoorB
namespace Go.Proofs.YtjohlbpahaklkaaDoor
set_option linter.unusedVariables false
set_option linter.unusedSimpArgs false
open Go.RowKit

def posOk (j : Nat) (c : Int) : Bool := if j < 4 then lowI c else digI c
def hdF (s : ByteArray) (k : Nat) : Bool := (List.range' k (10 - k)).all fun j => posOk j (byt s j)
theorem hdF_step (s : ByteArray) (k : Nat) (h : k < 10) : hdF s k = (posOk k (byt s k) && hdF s (k + 1)) := by
  unfold hdF
  rw [show 10 - k = (10 - (k + 1)) + 1 by omega, List.range'_succ, List.all_cons]
theorem hdF_end (s : ByteArray) : hdF s 10 = true := rfl
theorem hdF_zero (s : ByteArray) : hdF s 0 = (rng lowI s 0 4 && rng digI s 4 6) := by
  simp [hdF, List.range', posOk, rng, Bool.and_assoc]
set_option maxHeartbeats 400000 in
theorem headW (s : ByteArray) (w : World) (hs : s.size ≤ maxLen) :
    Calls Tryd.prog 29 #[.string s] w fun e w' => e = .returned (.bool (headB s)) ∧ w = w' := by
  unfold maxLen at hs
  by_cases hz : s.size < 10
  · have hzI : (s.size : Int) < 10 := by omega
    go_enter Tryd.func29, Tryd.ntmps29
    go_wp2
    all_goals (go_ret; go_light; refine ⟨ret_bool ?_, rfl⟩; unfold headB; simp_all; try omega)
  · have hzI : (10 : Int) ≤ s.size := by omega
    have hb := Lib.hid (show headB s = hdF s 0 by unfold headB; rw [hdF_zero, decide_eq_true (by omega : 10 ≤ s.size), Bool.true_and])
    go_enter Tryd.func29, Tryd.ntmps29
    go_wp2
    go_loop [3] (fun i => ∃ k : Nat, k ≤ 10 ∧ i = .int .i64 k ∧ Hid (hdF s k = hdF s 0)) (fun i => 10 - (intOf i).toNat)
    case atStart => exact ⟨0, Nat.zero_le _, rfl, Lib.hid rfl⟩
    case round =>
      obtain ⟨k, hk, rfl, hr⟩ := hrel
      by_cases hlt : k < 10
      · have hkz : k < s.size := by omega
        have hn := Lib.hid (hdF_step s k hlt)
        by_cases h4 : k < 4
        · have h4I : (k : Int) < 4 := by omega
          have hp := Lib.hid (show posOk k (byt s k) = lowI (s[k].toNat : Int) by rw [byt_get s k hkz]; simp [posOk, h4])
          go_wp2_with (first | (go_at_call 34; refine (letterW _ _).mono ?_; rintro e w' ⟨rfl, rfl⟩) | (go_at_call 32; refine (digitW _ _).mono ?_; rintro e w' ⟨rfl, rfl⟩))
          all_goals first
            | (go_round
               case rel => go_light; exact ⟨k + 1, by omega, by go_num, Lib.hid (by have a := hp.out; have b := hn.out; have c := hr.out; simp_all)⟩
               case measure => simp [intOf]; omega)
            | (go_ret; go_light; refine ⟨ret_bool ?_, rfl⟩; have a := hp.out; have b := hn.out; have c := hr.out; have d := hb.out; simp_all)
        · have h4I : (4 : Int) ≤ k := by omega
          have hp := Lib.hid (show posOk k (byt s k) = digI (s[k].toNat : Int) by rw [byt_get s k hkz]; simp [posOk, h4])
          go_wp2_with (first | (go_at_call 34; refine (letterW _ _).mono ?_; rintro e w' ⟨rfl, rfl⟩) | (go_at_call 32; refine (digitW _ _).mono ?_; rintro e w' ⟨rfl, rfl⟩))
          all_goals first
            | (go_round
               case rel => go_light; exact ⟨k + 1, by omega, by go_num, Lib.hid (by have a := hp.out; have b := hn.out; have c := hr.out; simp_all)⟩
               case measure => simp [intOf]; omega)
            | (go_ret; go_light; refine ⟨ret_bool ?_, rfl⟩; have a := hp.out; have b := hn.out; have c := hr.out; have d := hb.out; simp_all)
      · have e : k = 10 := by omega
        subst e
        go_wp2
        all_goals (go_ret; go_light; refine ⟨ret_bool ?_, rfl⟩; have c := hr.out; have d := hb.out; rw [d, ← c, hdF_end])
set_option maxHeartbeats 400000 in
theorem refSumW (s : ByteArray) (w : World) (hs : s.size ≤ maxLen) :
    Calls Tryd.prog 13 #[.string s] w fun e w' => e = .returned (.int .i64 (sumZ s)) ∧ w = w' := by
  have hA := fun w => headW s w hs
  unfold maxLen at hs
  cases h1 : headB s with
  | false =>
    simp only [h1] at hA
    have hr := Lib.hid (show sumZ s = -1 by unfold sumZ; rw [h1]; rfl)
    clear h1
    go_enter Tryd.func13, Tryd.ntmps13
    go_wp2_with (go_at_call 29; refine (hA _).mono ?_; rintro e w' ⟨rfl, rfl⟩)
    all_goals (go_ret; go_light; refine ⟨ret_int ?_, rfl⟩; exact hr.out.symm)
  | true =>
    simp only [h1] at hA
    have hr := Lib.hid (show sumZ s = part s 10 % 97 by unfold sumZ; rw [h1]; rfl)
    have h1' := h1
    unfold headB at h1'
    simp only [Bool.and_eq_true, decide_eq_true_eq] at h1'
    obtain ⟨⟨hz, hl⟩, hd⟩ := h1'
    have H := Lib.hid (And.intro hl hd)
    clear h1 hl hd
    go_enter Tryd.func13, Tryd.ntmps13
    go_wp2_with (go_at_call 29; refine (hA _).mono ?_; rintro e w' ⟨rfl, rfl⟩)
    go_loop [3, 4] (fun n i => ∃ k : Nat, k ≤ 10 ∧ i = .int .i64 k ∧ n = .int .i64 (part s k)) (fun _ i => 10 - (intOf i).toNat)
    case atStart => exact ⟨0, Nat.zero_le _, rfl, rfl⟩
    case round =>
      obtain ⟨k, hk, rfl, rfl⟩ := hrel
      obtain ⟨h0, hb⟩ := part_bound H.out.1 H.out.2 k hk
      by_cases hlt : k < 10
      · have hkz : k < s.size := by omega
        obtain ⟨hv, h3, h4⟩ := head_val H.out.1 H.out.2 k hlt
        have hn := Lib.hid (show part s (k + 1) = part s k + val (s[k].toNat : Int) * (k + 1) by rw [part, byt_get])
        have hL := Lib.hid (show k < 4 → val (s[k].toNat : Int) = s[k].toNat - 96 from fun h => by rw [← byt_get]; exact val_low (head_low H.out.1 k h))
        have hD := Lib.hid (show ¬ k < 4 → val (s[k].toNat : Int) = s[k].toNat - 48 from fun h => by rw [← byt_get]; exact val_dig (head_dig H.out.2 k (by omega) hlt))
        clear hv
        rw [byt_get s k hkz] at h3 h4
        generalize part s k = N at *
        have h5 : val (s[k].toNat : Int) * (k + 1) ≤ val (s[k].toNat : Int) * 10 := Int.mul_le_mul_of_nonneg_left (by omega) h3
        have h6 : 0 ≤ val (s[k].toNat : Int) * (k + 1) := Int.mul_nonneg h3 (by omega)
        by_cases hk4 : k < 4
        · have hk4I : (k : Int) < 4 := by omega
          have hx := hL.out hk4
          rw [hx] at h3 h4 h5 h6
          have hn := Lib.hid (by have := hn.out; rw [hx] at this; exact this)
          clear hx
          go_wp2
          all_goals first
            | (go_round
               case rel => go_light; exact ⟨k + 1, by omega, by go_num, by simp only [hn.out]⟩
               case measure => simp [intOf]; omega)
        · have hk4I : (4 : Int) ≤ k := by omega
          have hx := hD.out hk4
          rw [hx] at h3 h4 h5 h6
          have hn := Lib.hid (by have := hn.out; rw [hx] at this; exact this)
          clear hx
          go_wp2
          all_goals first
            | (go_round
               case rel => go_light; exact ⟨k + 1, by omega, by go_num, by simp only [hn.out]⟩
               case measure => simp [intOf]; omega)
      · have e : k = 10 := by omega
        subst e
        go_wp2
        all_goals (go_ret; go_light; refine ⟨ret_int ?_, rfl⟩; have := hr.out; simp_all)
set_option maxHeartbeats 400000 in
theorem refNumberW (s : ByteArray) (w : World) (hz : 10 ≤ s.size) (hs : s.size ≤ maxLen) (hd : rng digI s 4 6 = true) :
    Calls Tryd.prog 17 #[.string s] w fun e w' => e = .returned (.int .i64 (num s 4 6)) ∧ w = w' := by
  unfold maxLen at hs
  have hd := Lib.hid ((rng_iff digI s 6 4).1 hd)
  go_enter Tryd.func17, Tryd.ntmps17
  go_wp2
  go_loop [3, 4] (fun n i => ∃ k : Nat, k ≤ 6 ∧ i = .int .i64 (4 + k) ∧ n = .int .i64 (num s 4 k)) (fun _ i => 10 - (intOf i).toNat)
  case atStart => exact ⟨0, Nat.zero_le _, rfl, rfl⟩
  case round =>
    obtain ⟨k, hk, rfl, rfl⟩ := hrel
    by_cases hlt : k < 6
    · have hkz : 4 + k < s.size := by omega
      have hv : digI (s[4 + k].toNat : Int) = true := by rw [← byt_get]; exact hd.out (4 + k) (by omega) (by omega)
      have hb := num_bound s 4 k (fun j ha hj => hd.out j ha (by omega))
      have hp := pow_le6 k (by omega)
      have h0 : 0 ≤ num s 4 k := hb.1
      have h1 : num s 4 k ≤ 99999 := by omega
      have hn := Lib.hid (show num s 4 (k + 1) = num s 4 k * 10 + val (s[4 + k].toNat : Int) by rw [num, byt_get])
      have h2 : (48 : Int) ≤ s[4 + k].toNat := by simp [digI] at hv; omega
      have h3 : (s[4 + k].toNat : Int) ≤ 57 := by simp [digI] at hv; omega
      have hV := Lib.hid (val_dig hv)
      clear hb hp hv
      generalize num s 4 k = N at *
      go_wp2
      all_goals first
        | (go_round
           case rel => go_light; exact ⟨k + 1, by omega, by go_num, by have a := hn.out; have b := hV.out; rw [a, b]; go_num⟩
           case measure => simp [intOf]; omega)
    · have e : k = 6 := by omega
      subst e
      go_wp2
      all_goals (go_ret; go_light; exact ⟨rfl, rfl⟩)
end Go.Proofs.YtjohlbpahaklkaaDoor
