/-
  Names: plain functions and the walks.
-/
import Derived.Test.YtifconpldnobkaaBase
namespace Go.Proofs.Ytifconpldnobkaa
open Go.RowKit

def okc (c : UInt8) : Bool := (97 ≤ c && c ≤ 122) || (48 ≤ c && c ≤ 57) || c == 45
/-- are all bytes from place k on such -/
def allFrom (p : UInt8 → Bool) (s : ByteArray) (k : Nat) : Bool := (s.data.toList.drop k).all p
def nameB (s : ByteArray) : Bool := allFrom okc s 0 && decide (1 ≤ (s.size : Int)) && decide ((s.size : Int) ≤ 16)

theorem allFrom_step (p : UInt8 → Bool) (s : ByteArray) (k : Nat) (h : k < s.size) : allFrom p s k = (p s[k] && allFrom p s (k + 1)) := by
  unfold allFrom
  have h' : k < s.data.toList.length := by simpa using h
  rw [List.drop_eq_getElem_cons h']
  simp; rfl
theorem allFrom_end (p : UInt8 → Bool) (s : ByteArray) (k : Nat) (h : ¬ k < s.size) : allFrom p s k = true := by
  unfold allFrom
  rw [List.drop_eq_nil_of_le (by simpa using h)]
  rfl

theorem okc_toNat (c : UInt8) : okc c = (decide (97 ≤ (c.toNat : Int)) && decide ((c.toNat : Int) ≤ 122) || decide (48 ≤ (c.toNat : Int)) && decide ((c.toNat : Int) ≤ 57) || (c.toNat : Int) == 45) := by
  unfold okc
  rw [Bool.eq_iff_iff]
  simp [UInt8.le_iff_toNat_le, ← UInt8.toNat_inj]
  omega

set_option maxHeartbeats 400000 in
theorem name14 (s : ByteArray) (w : World) (hs : s.size ≤ maxLen) :
    Calls Try.prog 14 #[.string s] w fun e w' => e = .returned (.bool (nameB s)) ∧ w = w' := by
  unfold maxLen at hs
  go_enter Try.func14, Try.ntmps14
  go_wp2
  go_loop [3, 4] (fun i _ => ∃ k : Nat, k ≤ s.size ∧ i = .int .i64 k ∧ Hid (allFrom okc s k = allFrom okc s 0)) (fun i _ => s.size - (intOf i).toNat)
  case atStart => exact ⟨0, Nat.zero_le _, rfl, Lib.hid rfl⟩
  case round =>
    obtain ⟨k, hk, rfl, hr⟩ := hrel
    by_cases hlt : k < s.size
    · have ho := Lib.hid (okc_toNat s[k])
      have hn := Lib.hid (allFrom_step okc s k hlt)
      go_wp2
      all_goals first
        | (go_round
           case rel => go_light; exact ⟨k + 1, by omega, by go_num, Lib.hid (by have a := ho.out; have b := hn.out; have c := hr.out; simp_all; try omega)⟩
           case measure => simp [intOf]; omega)
        | (go_ret; go_light; refine ⟨ret_bool ?_, rfl⟩; have a := ho.out; have b := hn.out; have c := hr.out; unfold nameB; simp_all; try omega)
    · have hn := Lib.hid (allFrom_end okc s k hlt)
      go_wp2
      all_goals (go_ret; go_light; refine ⟨ret_bool ?_, rfl⟩; have b := hn.out; have c := hr.out; unfold nameB; simp_all; try omega)

def lowB (c : UInt8) : Bool := decide (97 ≤ (c.toNat : Int)) && decide ((c.toNat : Int) ≤ 122)
def digB (c : UInt8) : Bool := decide (48 ≤ (c.toNat : Int)) && decide ((c.toNat : Int) ≤ 57)
theorem low25 (c : UInt8) (w : World) : Calls Try.prog 25 #[.int .u8 c.toNat] w fun e w' => e = .returned (.bool (lowB c)) ∧ w = w' := by
  go_enter Try.func25, Try.ntmps25
  go_wp2
  all_goals (go_ret; go_light; refine ⟨ret_bool ?_, rfl⟩; unfold lowB; simp_all; try omega)
theorem dig26 (c : UInt8) (w : World) : Calls Try.prog 26 #[.int .u8 c.toNat] w fun e w' => e = .returned (.bool (digB c)) ∧ w = w' := by
  go_enter Try.func26, Try.ntmps26
  go_wp2
  all_goals (go_ret; go_light; refine ⟨ret_bool ?_, rfl⟩; unfold digB; simp_all; try omega)
theorem ok24 (c : UInt8) (w : World) : Calls Try.prog 24 #[.int .u8 c.toNat] w fun e w' => e = .returned (.bool (okc c)) ∧ w = w' := by
  have ho := Lib.hid (okc_toNat c)
  go_enter Try.func24, Try.ntmps24
  go_wp2_with (first | (go_at_call 25; refine (low25 _ _).mono ?_; rintro e w' ⟨rfl, rfl⟩) | (go_at_call 26; refine (dig26 _ _).mono ?_; rintro e w' ⟨rfl, rfl⟩))
  all_goals (go_ret; go_light; refine ⟨ret_bool ?_, rfl⟩; have a := ho.out; simp_all [lowB, digB]; try omega)
set_option maxHeartbeats 400000 in
theorem all23 (s : ByteArray) (w : World) (hs : s.size ≤ maxLen) :
    Calls Try.prog 23 #[.string s, .func (.func 24) #[] #[]] w fun e w' => e = .returned (.bool (allFrom okc s 0)) ∧ w = w' := by
  unfold maxLen at hs
  go_enter Try.func23, Try.ntmps23
  go_wp2
  go_loop [5, 8] (fun _ i => ∃ k : Nat, k ≤ s.size ∧ i = .int .i64 k ∧ Hid (allFrom okc s k = allFrom okc s 0)) (fun _ i => s.size - (intOf i).toNat)
  case atStart => exact ⟨0, Nat.zero_le _, rfl, Lib.hid rfl⟩
  case round =>
    obtain ⟨k, hk, rfl, hr⟩ := hrel
    by_cases hlt : k < s.size
    · have hn := Lib.hid (allFrom_step okc s k hlt)
      go_wp2_with (go_at_call 24; refine (ok24 _ _).mono ?_; rintro e w' ⟨rfl, rfl⟩)
      all_goals first
        | (go_round
           case rel => go_light; exact ⟨k + 1, by omega, by go_num, Lib.hid (by have b := hn.out; have c := hr.out; simp_all)⟩
           case measure => simp [intOf]; omega)
        | (go_ret; go_light; refine ⟨ret_bool ?_, rfl⟩; have b := hn.out; have c := hr.out; simp_all)
    · have hn := Lib.hid (allFrom_end okc s k hlt)
      go_wp2
      all_goals (go_ret; go_light; refine ⟨ret_bool ?_, rfl⟩; have b := hn.out; have c := hr.out; simp_all)
theorem name19 (s : ByteArray) (w : World) (hs : s.size ≤ maxLen) :
    Calls Try.prog 19 #[.string s] w fun e w' => e = .returned (.bool (nameB s)) ∧ w = w' := by
  have hs' := hs
  unfold maxLen at hs'
  go_enter Try.func19, Try.ntmps19
  go_wp2_with (go_at_call 23; refine (all23 _ _ hs).mono ?_; rintro e w' ⟨rfl, rfl⟩)
  all_goals (go_ret; go_light; refine ⟨ret_bool ?_, rfl⟩; unfold nameB; simp_all; try omega)

end Go.Proofs.Ytifconpldnobkaa
