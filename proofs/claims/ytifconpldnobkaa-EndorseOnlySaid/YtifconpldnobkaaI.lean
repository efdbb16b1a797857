/-
  The walk: the law's own example.
-/
import Derived.Test.YtifconpldnobkaaH
namespace Go.Proofs.Ytifconpldnobkaa
open Go.RowKit

abbrev sB : ByteArray := ⟨#[115]⟩
abbrev kB : ByteArray := ⟨#[107]⟩
abbrev yB : ByteArray := ⟨#[121]⟩
abbrev exX : En := ⟨sB, kB, 0, 0⟩
abbrev exY : En := ⟨kB, yB, 0, 0⟩
abbrev exZ : En := ⟨sB, yB, 0, 0⟩
theorem ex1 : check sB [exX, exY] = (yB, 2, 0) := by decide +kernel
theorem ex2 : check sB [exX, exZ] = (nil, 1, 8) := by decide +kernel

set_option maxHeartbeats 1000000 in
theorem awake7 (w : World) : Calls Try.prog 7 #[] w fun e w' => e = .returned (.bool true) ∧ Below w.heap.size w w' := by
  go_enter Try.func7, Try.ntmps7
  go_wp2_with fail
  refine (check11 sB _ 2 [exX, exY] _ (by decide) ?_).mono ?_
  · refine ⟨by decide, ?_, Rd.lit _ _ _ _ 2 4 (by simp) rfl⟩
    intro i hi
    have hi' : i < 2 := hi
    obtain rfl | rfl : i = 0 ∨ i = 1 := by omega
    · exact ⟨(by decide : sB.size ≤ maxLen), (by decide : kB.size ≤ maxLen)⟩
    · exact ⟨(by decide : kB.size ≤ maxLen), (by decide : yB.size ≤ maxLen)⟩
  rw [ex1]
  rintro e w1 ⟨rfl, hxb⟩
  (obtain ⟨hxc, hxf⟩ := bcell hxb; have hxz := hxb.size; (try simp [Nat.succ_le_iff] at hxz); (try have hxy := Nat.lt_of_succ_lt hxz); (try have hxy2 := Nat.lt_of_succ_lt hxy); (try have hxy3 := Nat.lt_of_succ_lt hxy2); (try have hxy4 := Nat.lt_of_succ_lt hxy3); have hxB : Below w.heap.size w w1 := (by (repeat' first | exact Below.refl _ _ | (with_reducible assumption) | (with_reducible refine bAlloc (by first | omega | (simp <;> omega)) ?_) | (with_reducible refine bSet (by first | omega | (simp <;> omega)) ?_) | (with_reducible refine bDrew ?_) | (with_reducible refine bDrewN ?_) | (with_reducible refine bTrans (by with_reducible assumption) (by first | omega | (simp <;> omega)) ?_))); have hxk := below_all hxB; (try have hxl0 : w.heap.size < w1.heap.size := (by omega)); (try have hxl1 : w.heap.size + 1 < w1.heap.size := (by omega)); (try have hxl2 : w.heap.size + 2 < w1.heap.size := (by omega)))
  go_wp2_with fail
  refine (check11 sB _ 2 [exX, exZ] _ (by decide) ?_).mono ?_
  · refine ⟨by decide, ?_, Rd.lit _ _ _ _ 2 4 (by simp) rfl⟩
    intro i hi
    have hi' : i < 2 := hi
    obtain rfl | rfl : i = 0 ∨ i = 1 := by omega
    · exact ⟨(by decide : sB.size ≤ maxLen), (by decide : kB.size ≤ maxLen)⟩
    · exact ⟨(by decide : sB.size ≤ maxLen), (by decide : yB.size ≤ maxLen)⟩
  rw [ex2]
  rintro e w1 ⟨rfl, hxb⟩
  (obtain ⟨hxc, hxf⟩ := bcell hxb; have hxz := hxb.size; (try simp [Nat.succ_le_iff] at hxz); (try have hxy := Nat.lt_of_succ_lt hxz); (try have hxy2 := Nat.lt_of_succ_lt hxy); (try have hxy3 := Nat.lt_of_succ_lt hxy2); (try have hxy4 := Nat.lt_of_succ_lt hxy3); have hxB : Below w.heap.size w w1 := (by (repeat' first | exact Below.refl _ _ | (with_reducible assumption) | (with_reducible refine bAlloc (by first | omega | (simp <;> omega)) ?_) | (with_reducible refine bSet (by first | omega | (simp <;> omega)) ?_) | (with_reducible refine bDrew ?_) | (with_reducible refine bDrewN ?_) | (with_reducible refine bTrans (by with_reducible assumption) (by first | omega | (simp <;> omega)) ?_))); have hxk := below_all hxB; (try have hxl0 : w.heap.size < w1.heap.size := (by omega)); (try have hxl1 : w.heap.size + 1 < w1.heap.size := (by omega)); (try have hxl2 : w.heap.size + 2 < w1.heap.size := (by omega)))
  go_wp2_with fail
  go_ret
  exact ⟨rfl, by (repeat' first | exact Below.refl _ _ | (with_reducible assumption) | (with_reducible refine bAlloc (by first | omega | (simp <;> omega)) ?_) | (with_reducible refine bSet (by first | omega | (simp <;> omega)) ?_) | (with_reducible refine bDrew ?_) | (with_reducible refine bDrewN ?_) | (with_reducible refine bTrans (by with_reducible assumption) (by first | omega | (simp <;> omega)) ?_))⟩
end Go.Proofs.Ytifconpldnobkaa
