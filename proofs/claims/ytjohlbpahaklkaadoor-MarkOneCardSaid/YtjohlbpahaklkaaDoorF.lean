/-
  Marks: Name; awake.
-/
import Derived.Test.YtjohlbpahaklkaaDoorE
namespace Go.Proofs.YtjohlbpahaklkaaDoor
set_option linter.unusedVariables false
set_option linter.unusedSimpArgs false
open Go.RowKit

def nameI (s : ByteArray) : Bool := rng okI s 0 s.size && decide (1 ≤ (s.size : Int)) && decide ((s.size : Int) ≤ 16)
theorem nameW (s : ByteArray) (w : World) (hs : s.size ≤ maxLen) :
    Calls Tryd.prog 18 #[.string s] w fun e w' => e = .returned (.bool (nameI s)) ∧ w = w' := by
  have hA := fun w => allOk s w hs
  unfold maxLen at hs
  go_enter Tryd.func18, Tryd.ntmps18
  go_wp2_with (go_at_call 26; refine (hA _).mono ?_; rintro e w' ⟨rfl, rfl⟩)
  all_goals (go_ret; go_light; refine ⟨ret_bool ?_, rfl⟩; unfold nameI; simp_all; try omega)
set_option maxHeartbeats 400000 in
theorem refNameW (s : ByteArray) (w : World) (hs : s.size ≤ maxLen) :
    Calls Tryd.prog 19 #[.string s] w fun e w' => e = .returned (.bool (nameI s)) ∧ w = w' := by
  unfold maxLen at hs
  go_enter Tryd.func19, Tryd.ntmps19
  go_wp2
  go_loop [3] (fun i => ∃ k : Nat, k ≤ s.size ∧ i = .int .i64 k ∧ Hid (rngF okI s k = rng okI s 0 s.size)) (fun i => s.size - (intOf i).toNat)
  case atStart => exact ⟨0, Nat.zero_le _, rfl, Lib.hid rfl⟩
  case round =>
    obtain ⟨k, hk, rfl, hr⟩ := hrel
    by_cases hlt : k < s.size
    · have hn := Lib.hid (rngF_step okI s k hlt)
      go_wp2_with (first | (go_at_call 34; refine (letterW _ _).mono ?_; rintro e w' ⟨rfl, rfl⟩) | (go_at_call 32; refine (digitW _ _).mono ?_; rintro e w' ⟨rfl, rfl⟩))
      all_goals first
        | (go_round
           case rel => go_light; exact ⟨k + 1, by omega, by go_num, Lib.hid (by have b := hn.out; have c := hr.out; simp_all [okI])⟩
           case measure => simp [intOf]; omega)
        | (go_ret; go_light; refine ⟨ret_bool ?_, rfl⟩; have b := hn.out; have c := hr.out; simp_all [okI, nameI])
    · have hn := Lib.hid (rngF_end okI s k hlt)
      go_wp2
      all_goals (go_ret; go_light; refine ⟨ret_bool ?_, rfl⟩; have b := hn.out; have c := hr.out; unfold nameI; simp_all; try omega)
theorem awakeW (w : World) (hT : Tb w) :
    Calls Tryd.prog 11 #[] w fun e w' => e = .returned (.bool true) ∧ Below w.heap.size w w' := by
  have hS0 : mkE ⟨#[97, 97, 97, 97]⟩ 1 = 0 := by decide +kernel
  have hS1 : mkS ⟨#[97, 97, 97, 97]⟩ 1 = ⟨#[97, 97, 97, 97, 48, 48, 48, 48, 48, 49, 50, 48]⟩ := by decide +kernel
  have hM := fun w h => makeW ⟨#[97, 97, 97, 97]⟩ 1 w (by decide +kernel) h
  simp only [hS0, hS1] at hM
  have hU := fun w => sumW ⟨#[97, 97, 97, 97, 48, 48, 48, 48, 48, 49]⟩ w (by decide +kernel)
  simp only [show sumZ ⟨#[97, 97, 97, 97, 48, 48, 48, 48, 48, 49]⟩ = 20 by decide +kernel] at hU
  have hR := fun w => rightW ⟨#[97, 97, 97, 97, 48, 48, 48, 48, 48, 49, 50, 48]⟩ w (by decide +kernel)
  simp only [show rightB ⟨#[97, 97, 97, 97, 48, 48, 48, 48, 48, 49, 50, 48]⟩ = true by decide +kernel] at hR
  have hN := fun w => nameW ⟨#[97, 45, 49]⟩ w (by decide +kernel)
  simp only [show nameI ⟨#[97, 45, 49]⟩ = true by decide +kernel] at hN
  clear hS0 hS1
  go_enter Tryd.func11, Tryd.ntmps11
  go_wp2_with (first | (go_at_call 12; refine (hM _ hT).mono ?_; rintro e w1 ⟨rfl, hxb⟩; (obtain ⟨hxc, hxf⟩ := bcell hxb; have hxz := hxb.size; (try simp [Nat.succ_le_iff] at hxz); (try have hxy := Nat.lt_of_succ_lt hxz); (try have hxy2 := Nat.lt_of_succ_lt hxy); (try have hxy3 := Nat.lt_of_succ_lt hxy2); (try have hxy4 := Nat.lt_of_succ_lt hxy3); have hxB : Below w.heap.size w w1 := (by (repeat' first | exact Below.refl _ _ | (with_reducible assumption) | (with_reducible refine bAlloc (by first | omega | (simp <;> omega)) ?_) | (with_reducible refine bSet (by first | omega | (simp <;> omega)) ?_) | (with_reducible refine bDrew ?_) | (with_reducible refine bDrewN ?_) | (with_reducible refine bTrans (by with_reducible assumption) (by first | omega | (simp <;> omega)) ?_))); have hxk := below_all hxB; (try have hxl0 : w.heap.size < w1.heap.size := (by omega)); (try have hxl1 : w.heap.size + 1 < w1.heap.size := (by omega)); (try have hxl2 : w.heap.size + 2 < w1.heap.size := (by omega)))) | (go_at_call 20; refine (hU _).mono ?_; rintro e w' ⟨rfl, rfl⟩) | (go_at_call 15; refine (hR _).mono ?_; rintro e w' ⟨rfl, m, rfl⟩) | (go_at_call 18; refine (hN _).mono ?_; rintro e w' ⟨rfl, rfl⟩))
  all_goals (go_ret; go_light; exact ⟨rfl, by (repeat' first | exact Below.refl _ _ | (with_reducible assumption) | (with_reducible refine bAlloc (by first | omega | (simp <;> omega)) ?_) | (with_reducible refine bSet (by first | omega | (simp <;> omega)) ?_) | (with_reducible refine bDrew ?_) | (with_reducible refine bDrewN ?_) | (with_reducible refine bTrans (by with_reducible assumption) (by first | omega | (simp <;> omega)) ?_))⟩)
end Go.Proofs.YtjohlbpahaklkaaDoor
