/-
  Marks: Right, Owner, Number.
-/
import Derived.Test.YtjohlbpahaklkaaDoorC
namespace Go.Proofs.YtjohlbpahaklkaaDoor
set_option linter.unusedVariables false
set_option linter.unusedSimpArgs false
open Go.RowKit

theorem quietS {P : Program} {f : FuncId} {args : Array Value} {w : World} {n : Nat} {v : Value} (h : Calls P f args (w.drewN n) fun e w' => e = .returned v ∧ w.drewN n = w') : Calls P f args (w.drewN n) fun e w'' => e = .returned v ∧ ∃ m, w'' = w.drewN m :=
  h.mono fun _ _ ⟨he, hm⟩ => ⟨he, n, hm.symm⟩
theorem numberX (s : ByteArray) (a b : Nat) (hb : b ≤ s.size) (h6 : b - a ≤ 6) (hd : rng digI s a (b - a) = true) (w : World) :
    Calls Tryd.prog 31 #[.string (s.extract a b)] w fun e w' => e = .returned (.int .i64 (num s a (b - a))) ∧ w = w' := by
  have hz := size_extract s a b hb
  have h := numberW (s.extract a b) w (by omega) (by rw [rng_extract digI s a b hb]; exact hd)
  rw [hz, num_extract s a b hb _ (Nat.le_refl _)] at h
  exact h
set_option maxHeartbeats 400000 in
theorem rightW (s : ByteArray) (w : World) (hs : s.size ≤ maxLen) :
    Calls Tryd.prog 15 #[.string s] w fun e w' => e = .returned (.bool (rightB s)) ∧ ∃ m, w' = w.drewN m := by
  by_cases hz : s.size = 12
  · have hS := fun w => sumW s w hs
    have hA := allDigX s 10 12 (by omega) hs
    have hzI : ((s.size : Int) = 12) := by omega
    cases hd : rng digI s 10 2 with
    | false =>
      simp only [Nat.reduceSub, hd] at hA
      have hr := Lib.hid (show rightB s = false by unfold rightB; simp [hd])
      clear hd
      go_enter Tryd.func15, Tryd.ntmps15
      go_wp2
      go_quiet (first | (go_at_call 26; refine quietS (hA _)) | (go_at_call 20; refine quietS (hS _)))
      go_wp2
      all_goals (go_ret; go_light; refine ⟨ret_bool ?_, _, rfl⟩; have := hr.out; simp_all)
    | true =>
      have hN := numberX s 10 12 (by omega) (by omega) hd
      simp only [Nat.reduceSub, hd] at hA hN
      have hr := Lib.hid (show rightB s = (sumZ s == num s 10 2) by unfold rightB; simp [hd, hz])
      clear hd
      go_enter Tryd.func15, Tryd.ntmps15
      go_wp2
      go_quiet (first | (go_at_call 26; refine quietS (hA _)) | (go_at_call 20; refine quietS (hS _)) | (go_at_call 31; refine quietS (hN _)))
      go_wp2
      all_goals (go_ret; go_light; refine ⟨ret_bool ?_, _, rfl⟩; have := hr.out; simp_all)
  · have hzI : ((s.size : Int) == 12) = false := by simp; omega
    have hr := Lib.hid (show rightB s = false by unfold rightB; simp [hz])
    clear hz
    go_enter Tryd.func15, Tryd.ntmps15
    go_wp2
    go_quiet (fail)
    go_wp2
    all_goals (go_ret; go_light; refine ⟨ret_bool ?_, _, rfl⟩; have := hr.out; simp_all)

def ownerB (s : ByteArray) : ByteArray := if rightB s then s.extract 0 4 else ⟨#[]⟩
def numberZ (s : ByteArray) : Int := if rightB s then num s 4 6 else -1
theorem right_size {s : ByteArray} (h : rightB s = true) : s.size = 12 := by unfold rightB at h; simp at h; exact h.1.1
theorem right_sum {s : ByteArray} (h : rightB s = true) : sumZ s = num s 10 2 := by unfold rightB at h; simp at h; exact h.2
theorem right_chk {s : ByteArray} (h : rightB s = true) : rng digI s 10 2 = true := by unfold rightB at h; simp only [Bool.and_eq_true] at h; exact h.1.2
theorem right_head {s : ByteArray} (h : rightB s = true) : headB s = true := by
  cases hh : headB s with
  | true => rfl
  | false =>
    have h1 := right_sum h
    have hn := (num_bound s 10 2 (fun j h2 h3 => (rng_iff digI s 2 10).1 (right_chk h) j h2 h3)).1
    unfold sumZ at h1
    rw [hh] at h1
    simp at h1
    omega
theorem right_low {s : ByteArray} (h : rightB s = true) : rng lowI s 0 4 = true := by
  have := right_head h
  unfold headB at this; simp only [Bool.and_eq_true] at this; exact this.1.2
theorem right_dig {s : ByteArray} (h : rightB s = true) : rng digI s 4 6 = true := by
  have := right_head h
  unfold headB at this; simp only [Bool.and_eq_true] at this; exact this.2
theorem ownerW (s : ByteArray) (w : World) (hs : s.size ≤ maxLen) :
    Calls Tryd.prog 21 #[.string s] w fun e w' => e = .returned (.string (ownerB s)) ∧ ∃ m, w' = w.drewN m := by
  have hR := fun w => rightW s w hs
  cases h : rightB s with
  | false =>
    simp only [h] at hR
    have hr := Lib.hid (show ownerB s = ⟨#[]⟩ by unfold ownerB; rw [h]; rfl)
    clear h
    go_enter Tryd.func21, Tryd.ntmps21
    go_wp2_with (go_at_call 15; refine (hR _).mono ?_; rintro e w' ⟨rfl, m, rfl⟩)
    all_goals (go_ret; go_light; rw [hr.out]; exact ⟨rfl, _, rfl⟩)
  | true =>
    simp only [h] at hR
    have hz := right_size h
    have hr := Lib.hid (show ownerB s = s.extract 0 4 by unfold ownerB; rw [h]; rfl)
    clear h
    go_enter Tryd.func21, Tryd.ntmps21
    go_wp2_with (go_at_call 15; refine (hR _).mono ?_; rintro e w' ⟨rfl, m, rfl⟩)
    all_goals (go_ret; go_light; rw [hr.out]; exact ⟨rfl, _, rfl⟩)
theorem numberZW (s : ByteArray) (w : World) (hs : s.size ≤ maxLen) :
    Calls Tryd.prog 22 #[.string s] w fun e w' => e = .returned (.int .i64 (numberZ s)) ∧ ∃ m, w' = w.drewN m := by
  have hR := fun w => rightW s w hs
  cases h : rightB s with
  | false =>
    simp only [h] at hR
    have hr := Lib.hid (show numberZ s = -1 by unfold numberZ; rw [h]; rfl)
    clear h
    go_enter Tryd.func22, Tryd.ntmps22
    go_wp2_with (go_at_call 15; refine (hR _).mono ?_; rintro e w' ⟨rfl, m, rfl⟩)
    all_goals (go_ret; go_light; rw [hr.out]; exact ⟨rfl, _, rfl⟩)
  | true =>
    simp only [h] at hR
    have hz := right_size h
    have hX := numberX s 4 10 (by omega) (by omega) (right_dig h)
    have hr := Lib.hid (show numberZ s = num s 4 6 by unfold numberZ; rw [h]; rfl)
    clear h
    go_enter Tryd.func22, Tryd.ntmps22
    go_wp2_with (first | (go_at_call 15; refine (hR _).mono ?_; rintro e w' ⟨rfl, m, rfl⟩) | (go_at_call 31; refine (hX _).mono ?_; rintro e w' ⟨rfl, rfl⟩))
    all_goals (go_ret; go_light; rw [hr.out]; exact ⟨rfl, _, rfl⟩)
theorem refRight_eq (s : ByteArray) (hz : s.size = 12) : rightB s = (headB s && digI (byt s 10) && digI (byt s 11) && sumZ s == 10 * (byt s 10 - 48) + byt s 11 - 48) := by
  rw [Bool.eq_iff_iff]
  constructor
  · intro h
    have h1 := right_head h
    have h2 := right_chk h
    have h3 := right_sum h
    simp only [rng, Bool.and_eq_true, Bool.and_true] at h2
    simp only [num, Nat.add_zero, Nat.reduceAdd, val_dig h2.1, val_dig h2.2] at h3
    simp [h1, h2.1, h2.2, h3]
    omega
  · intro h
    simp only [Bool.and_eq_true, beq_iff_eq] at h
    obtain ⟨⟨⟨h1, h2⟩, h3⟩, h4⟩ := h
    unfold rightB
    simp only [hz, rng, h2, h3, num, Nat.add_zero, Nat.reduceAdd, val_dig h2, val_dig h3]
    simp
    omega
set_option maxHeartbeats 400000 in
theorem refRightW (s : ByteArray) (w : World) (hs : s.size ≤ maxLen) :
    Calls Tryd.prog 16 #[.string s] w fun e w' => e = .returned (.bool (rightB s)) ∧ ∃ m, w' = w.drewN m := by
  by_cases hz : s.size = 12
  · have hS := fun w => refSumW s w hs
    have hH := fun w => headW s w hs
    have hq := Lib.hid (refRight_eq s hz)
    have hzI : ((s.size : Int) = 12) := by omega
    have e10 := Lib.hid (byt_get s 10 (by omega))
    have e11 := Lib.hid (byt_get s 11 (by omega))
    have hD10 := fun w => digitW (s[10]'(by omega)) w
    have hD11 := fun w => digitW (s[11]'(by omega)) w
    cases h1 : headB s with
    | false =>
      simp only [h1] at hH
      have hr := Lib.hid (show rightB s = false by rw [hq.out, h1]; rfl)
      clear h1 hD10 hD11
      go_enter Tryd.func16, Tryd.ntmps16
      go_wp2
      go_quiet (first | (go_at_call 29; refine quietS (hH _)))
      go_wp2
      all_goals (go_ret; go_light; rw [hr.out]; exact ⟨rfl, _, rfl⟩)
    | true =>
    cases h2 : digI (s[10].toNat : Int) with
    | false =>
      simp only [h1] at hH
      simp only [h2] at hD10
      have hr := Lib.hid (show rightB s = false by rw [hq.out, e10.out, h2]; simp)
      clear h1 h2 hD11
      go_enter Tryd.func16, Tryd.ntmps16
      go_wp2
      go_quiet (first | (go_at_call 29; refine quietS (hH _)) | (go_at_call 32; refine quietS (hD10 _)))
      go_wp2
      all_goals (go_ret; go_light; rw [hr.out]; exact ⟨rfl, _, rfl⟩)
    | true =>
    cases h3 : digI (s[11].toNat : Int) with
    | false =>
      simp only [h1] at hH
      simp only [h2] at hD10
      simp only [h3] at hD11
      have hr := Lib.hid (show rightB s = false by rw [hq.out, e11.out, h3]; simp)
      clear h1 h2 h3
      go_enter Tryd.func16, Tryd.ntmps16
      go_wp2
      go_quiet (first | (go_at_call 29; refine quietS (hH _)) | (go_at_call 32; with_reducible refine quietS (hD10 _)) | (go_at_call 32; refine quietS (hD11 _)))
      go_wp2
      all_goals (go_ret; go_light; rw [hr.out]; exact ⟨rfl, _, rfl⟩)
    | true =>
      simp only [h1] at hH
      simp only [h2] at hD10
      simp only [h3] at hD11
      have hr := Lib.hid (show rightB s = (sumZ s == 10 * ((s[10].toNat : Int) - 48) + s[11].toNat - 48) by rw [hq.out, h1, e10.out, e11.out, h2, h3]; simp)
      have hd2 : (48 : Int) ≤ s[10].toNat ∧ (s[10].toNat : Int) ≤ 57 := by simp [digI] at h2; omega
      have hd3 : (48 : Int) ≤ s[11].toNat ∧ (s[11].toNat : Int) ≤ 57 := by simp [digI] at h3; omega
      obtain ⟨a1, a2⟩ := hd2
      obtain ⟨b1, b2⟩ := hd3
      clear h1 h2 h3
      go_enter Tryd.func16, Tryd.ntmps16
      go_wp2
      go_quiet (first | (go_at_call 29; refine quietS (hH _)) | (go_at_call 13; refine quietS (hS _)) | (go_at_call 32; with_reducible refine quietS (hD10 _)) | (go_at_call 32; refine quietS (hD11 _)))
      go_wp2
      all_goals (go_ret; go_light; rw [hr.out]; refine ⟨ret_bool ?_, _, rfl⟩; simp_all)
  · have hzI : ((s.size : Int) == 12) = false := by simp; omega
    have hr := Lib.hid (show rightB s = false by unfold rightB; simp [hz])
    clear hz
    go_enter Tryd.func16, Tryd.ntmps16
    go_wp2
    go_quiet (fail)
    go_wp2
    all_goals (go_ret; go_light; rw [hr.out]; exact ⟨rfl, _, rfl⟩)
end Go.Proofs.YtjohlbpahaklkaaDoor
