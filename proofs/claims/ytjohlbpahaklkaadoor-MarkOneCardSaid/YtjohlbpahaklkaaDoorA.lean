/-
  Marks: the small functions.
-/
import Derived.Test.YtjohlbpahaklkaaDoorBase
import Derived.Test.YtjohlbpahaklkaaDoorP
namespace Go.Proofs.YtjohlbpahaklkaaDoor
set_option linter.unusedVariables false
set_option linter.unusedSimpArgs false
open Go.RowKit

/-- are all bytes from place k on such -/
def rngF (p : Int → Bool) (s : ByteArray) (k : Nat) : Bool := rng p s k (s.size - k)
theorem rngF_step (p : Int → Bool) (s : ByteArray) (k : Nat) (h : k < s.size) : rngF p s k = (p (s[k].toNat : Int) && rngF p s (k + 1)) := by
  unfold rngF
  obtain ⟨m, hm⟩ : ∃ m, s.size - k = m + 1 := ⟨s.size - k - 1, by omega⟩
  rw [hm, rng, byt_get s k h]
  congr 2
  omega
theorem rngF_end (p : Int → Bool) (s : ByteArray) (k : Nat) (h : ¬ k < s.size) : rngF p s k = true := by
  unfold rngF
  rw [show s.size - k = 0 by omega, rng]
theorem rngF_zero (p : Int → Bool) (s : ByteArray) : rngF p s 0 = rng p s 0 s.size := rfl
theorem letterW (c : UInt8) (w : World) : Calls Tryd.prog 34 #[.int .u8 c.toNat] w fun e w' => e = .returned (.bool (lowI c.toNat)) ∧ w = w' := by
  go_enter Tryd.func34, Tryd.ntmps34
  go_wp2
  all_goals (go_ret; go_light; refine ⟨ret_bool ?_, rfl⟩; unfold lowI; simp_all; try omega)
theorem digitW (c : UInt8) (w : World) : Calls Tryd.prog 32 #[.int .u8 c.toNat] w fun e w' => e = .returned (.bool (digI c.toNat)) ∧ w = w' := by
  go_enter Tryd.func32, Tryd.ntmps32
  go_wp2
  all_goals (go_ret; go_light; refine ⟨ret_bool ?_, rfl⟩; unfold digI; simp_all; try omega)
theorem lowW (c : UInt8) (w : World) : Calls Tryd.prog 27 #[.int .u8 c.toNat] w fun e w' => e = .returned (.bool (lowI c.toNat)) ∧ w = w' := by
  go_enter Tryd.func27, Tryd.ntmps27
  go_wp2
  all_goals (go_ret; go_light; refine ⟨ret_bool ?_, rfl⟩; unfold lowI; simp_all; try omega)
theorem digW (c : UInt8) (w : World) : Calls Tryd.prog 30 #[.int .u8 c.toNat] w fun e w' => e = .returned (.bool (digI c.toNat)) ∧ w = w' := by
  go_enter Tryd.func30, Tryd.ntmps30
  go_wp2
  all_goals (go_ret; go_light; refine ⟨ret_bool ?_, rfl⟩; unfold digI; simp_all; try omega)
theorem okW (c : UInt8) (w : World) : Calls Tryd.prog 33 #[.int .u8 c.toNat] w fun e w' => e = .returned (.bool (okI c.toNat)) ∧ w = w' := by
  go_enter Tryd.func33, Tryd.ntmps33
  go_wp2_with (first | (go_at_call 27; refine (lowW _ _).mono ?_; rintro e w' ⟨rfl, rfl⟩) | (go_at_call 30; refine (digW _ _).mono ?_; rintro e w' ⟨rfl, rfl⟩))
  all_goals (go_ret; go_light; refine ⟨ret_bool ?_, rfl⟩; unfold okI; simp_all; try omega)
/-- value, of a letter or a digit -/
theorem valW (c : UInt8) (w : World) (h : lowI c.toNat = true ∨ digI c.toNat = true) : Calls Tryd.prog 35 #[.int .u8 c.toNat] w fun e w' => e = .returned (.int .i64 (val c.toNat)) ∧ w = w' := by
  have hh := Lib.hid h
  clear h
  go_enter Tryd.func35, Tryd.ntmps35
  go_wp2_with (go_at_call 27; refine (lowW _ _).mono ?_; rintro e w' ⟨rfl, rfl⟩)
  all_goals (go_ret; go_light; refine ⟨ret_int ?_, rfl⟩; have h := hh.out; unfold val; simp_all [lowI, digI]; try omega)
set_option maxHeartbeats 400000 in
theorem allLow (s : ByteArray) (w : World) (hs : s.size ≤ maxLen) :
    Calls Tryd.prog 26 #[.string s, .func (.func 27) #[] #[]] w fun e w' => e = .returned (.bool (rng lowI s 0 s.size)) ∧ w = w' := by
  unfold maxLen at hs
  go_enter Tryd.func26, Tryd.ntmps26
  go_wp2
  go_loop [5, 8] (fun _ i => ∃ k : Nat, k ≤ s.size ∧ i = .int .i64 k ∧ Hid (rngF lowI s k = rng lowI s 0 s.size)) (fun _ i => s.size - (intOf i).toNat)
  case atStart => exact ⟨0, Nat.zero_le _, rfl, Lib.hid rfl⟩
  case round =>
    obtain ⟨k, hk, rfl, hr⟩ := hrel
    by_cases hlt : k < s.size
    · have hn := Lib.hid (rngF_step lowI s k hlt)
      go_wp2_with (go_at_call 27; refine (lowW _ _).mono ?_; rintro e w' ⟨rfl, rfl⟩)
      all_goals first
        | (go_round
           case rel => go_light; exact ⟨k + 1, by omega, by go_num, Lib.hid (by have b := hn.out; have c := hr.out; simp_all)⟩
           case measure => simp [intOf]; omega)
        | (go_ret; go_light; refine ⟨ret_bool ?_, rfl⟩; have b := hn.out; have c := hr.out; simp_all)
    · have hn := Lib.hid (rngF_end lowI s k hlt)
      go_wp2
      all_goals (go_ret; go_light; refine ⟨ret_bool ?_, rfl⟩; have b := hn.out; have c := hr.out; simp_all)
set_option maxHeartbeats 400000 in
theorem allDig (s : ByteArray) (w : World) (hs : s.size ≤ maxLen) :
    Calls Tryd.prog 26 #[.string s, .func (.func 30) #[] #[]] w fun e w' => e = .returned (.bool (rng digI s 0 s.size)) ∧ w = w' := by
  unfold maxLen at hs
  go_enter Tryd.func26, Tryd.ntmps26
  go_wp2
  go_loop [5, 8] (fun _ i => ∃ k : Nat, k ≤ s.size ∧ i = .int .i64 k ∧ Hid (rngF digI s k = rng digI s 0 s.size)) (fun _ i => s.size - (intOf i).toNat)
  case atStart => exact ⟨0, Nat.zero_le _, rfl, Lib.hid rfl⟩
  case round =>
    obtain ⟨k, hk, rfl, hr⟩ := hrel
    by_cases hlt : k < s.size
    · have hn := Lib.hid (rngF_step digI s k hlt)
      go_wp2_with (go_at_call 30; refine (digW _ _).mono ?_; rintro e w' ⟨rfl, rfl⟩)
      all_goals first
        | (go_round
           case rel => go_light; exact ⟨k + 1, by omega, by go_num, Lib.hid (by have b := hn.out; have c := hr.out; simp_all)⟩
           case measure => simp [intOf]; omega)
        | (go_ret; go_light; refine ⟨ret_bool ?_, rfl⟩; have b := hn.out; have c := hr.out; simp_all)
    · have hn := Lib.hid (rngF_end digI s k hlt)
      go_wp2
      all_goals (go_ret; go_light; refine ⟨ret_bool ?_, rfl⟩; have b := hn.out; have c := hr.out; simp_all)
set_option maxHeartbeats 400000 in
theorem allOk (s : ByteArray) (w : World) (hs : s.size ≤ maxLen) :
    Calls Tryd.prog 26 #[.string s, .func (.func 33) #[] #[]] w fun e w' => e = .returned (.bool (rng okI s 0 s.size)) ∧ w = w' := by
  unfold maxLen at hs
  go_enter Tryd.func26, Tryd.ntmps26
  go_wp2
  go_loop [5, 8] (fun _ i => ∃ k : Nat, k ≤ s.size ∧ i = .int .i64 k ∧ Hid (rngF okI s k = rng okI s 0 s.size)) (fun _ i => s.size - (intOf i).toNat)
  case atStart => exact ⟨0, Nat.zero_le _, rfl, Lib.hid rfl⟩
  case round =>
    obtain ⟨k, hk, rfl, hr⟩ := hrel
    by_cases hlt : k < s.size
    · have hn := Lib.hid (rngF_step okI s k hlt)
      go_wp2_with (go_at_call 33; refine (okW _ _).mono ?_; rintro e w' ⟨rfl, rfl⟩)
      all_goals first
        | (go_round
           case rel => go_light; exact ⟨k + 1, by omega, by go_num, Lib.hid (by have b := hn.out; have c := hr.out; simp_all)⟩
           case measure => simp [intOf]; omega)
        | (go_ret; go_light; refine ⟨ret_bool ?_, rfl⟩; have b := hn.out; have c := hr.out; simp_all)
    · have hn := Lib.hid (rngF_end okI s k hlt)
      go_wp2
      all_goals (go_ret; go_light; refine ⟨ret_bool ?_, rfl⟩; have b := hn.out; have c := hr.out; simp_all)
end Go.Proofs.YtjohlbpahaklkaaDoor
