/-
  Money: fractions, walked.
-/
import Derived.Test.YtgnmjopifdekiaaDoorBase
import Derived.Test.YtgnmjopifdekiaaDoorPs
import Derived.Test.YtgnmjopifdekiaaDoorPc
namespace Go.Proofs.YtgnmjopifdekiaaDoor
set_option linter.unusedVariables false
set_option linter.unusedSimpArgs false
open Go.RowKit

/-- a fraction's value -/
abbrev rv (n d : Int) : Value := .agg #[.int .i64 n, .int .i64 d]
theorem fracB_iff {n d : Int} : fracB n d = true ↔ 0 ≤ n ∧ 1 ≤ d := by unfold fracB; simp
theorem fractionW (n d : Int) (w : World) : Calls Tryd.prog 28 #[rv n d] w fun e w' => e = .returned (.bool (fracB n d)) ∧ Below w.heap.size w w' := by
  go_enter Tryd.func28, Tryd.ntmps28
  go_wp2
  all_goals (go_ret; go_light; refine ⟨ret_bool ?_, by (repeat' first | exact Below.refl _ _ | (with_reducible assumption) | (with_reducible refine bAlloc (by first | omega | (simp <;> omega)) ?_) | (with_reducible refine bSet (by first | omega | (simp <;> omega)) ?_) | (with_reducible refine bDrew ?_) | (with_reducible refine bDrewN ?_) | (with_reducible refine bTrans (by with_reducible assumption) (by first | omega | (simp <;> omega)) ?_))⟩; unfold fracB; simp_all; try omega)
theorem refRightW (n d : Int) (w : World) : Calls Tryd.prog 32 #[rv n d] w fun e w' => e = .returned (.bool (fracB n d)) ∧ Below w.heap.size w w' := by
  go_enter Tryd.func32, Tryd.ntmps32
  go_wp2
  all_goals (go_ret; go_light; refine ⟨ret_bool ?_, by (repeat' first | exact Below.refl _ _ | (with_reducible assumption) | (with_reducible refine bAlloc (by first | omega | (simp <;> omega)) ?_) | (with_reducible refine bSet (by first | omega | (simp <;> omega)) ?_) | (with_reducible refine bDrew ?_) | (with_reducible refine bDrewN ?_) | (with_reducible refine bTrans (by with_reducible assumption) (by first | omega | (simp <;> omega)) ?_))⟩; unfold fracB; simp_all; try omega)
def heldN (n d : Int) : Int := if fracB n d then n else 0
def heldD (n d : Int) : Int := if fracB n d then d else 1
theorem heldW (n d : Int) (w : World) : Calls Tryd.prog 46 #[rv n d] w fun e w' => e = .returned (rv (heldN n d) (heldD n d)) ∧ Below w.heap.size w w' := by
  have hF := fun w => fractionW n d w
  unfold heldN heldD
  cases hf : fracB n d
  all_goals
    simp only [hf] at hF
    clear hf
    go_enter Tryd.func46, Tryd.ntmps46
    go_wp2_with (go_at_call 28; refine (hF _).mono ?_; rintro e w1 ⟨rfl, hxb⟩; (obtain ⟨hxc, hxf⟩ := bcell hxb; have hxz := hxb.size; (try simp [Nat.succ_le_iff] at hxz); (try have hxy := Nat.lt_of_succ_lt hxz); (try have hxy2 := Nat.lt_of_succ_lt hxy); (try have hxy3 := Nat.lt_of_succ_lt hxy2); (try have hxy4 := Nat.lt_of_succ_lt hxy3); have hxB : Below w.heap.size w w1 := (by (repeat' first | exact Below.refl _ _ | (with_reducible assumption) | (with_reducible refine bAlloc (by first | omega | (simp <;> omega)) ?_) | (with_reducible refine bSet (by first | omega | (simp <;> omega)) ?_) | (with_reducible refine bDrew ?_) | (with_reducible refine bDrewN ?_) | (with_reducible refine bTrans (by with_reducible assumption) (by first | omega | (simp <;> omega)) ?_))); have hxk := below_all hxB; (try have hxl0 : w.heap.size < w1.heap.size := (by omega)); (try have hxl1 : w.heap.size + 1 < w1.heap.size := (by omega)); (try have hxl2 : w.heap.size + 2 < w1.heap.size := (by omega))))
    try (have z0 : w1.cell? ⟨w.heap.size + 1, 0, none⟩ = some (.int .i64 0) := by rw [hxc _ _ (by simp)]; simp [go_sem])
    try (have z1 : w1.cell? ⟨w.heap.size + 1, 1, none⟩ = some (.int .i64 0) := by rw [hxc _ _ (by simp)]; simp [go_sem])
    first
      | refine bodyPost_ret (v := rv 0 1) (by simp [results, Tryd.results46, go_sem, z0, z1]) rfl ⟨rfl, by (repeat' first | exact Below.refl _ _ | (with_reducible assumption) | (with_reducible refine bAlloc (by first | omega | (simp <;> omega)) ?_) | (with_reducible refine bSet (by first | omega | (simp <;> omega)) ?_) | (with_reducible refine bDrew ?_) | (with_reducible refine bDrewN ?_) | (with_reducible refine bTrans (by with_reducible assumption) (by first | omega | (simp <;> omega)) ?_))⟩
      | refine bodyPost_ret (v := rv n d) (by simp [results, Tryd.results46, go_sem, z0, z1]) rfl ⟨rfl, by (repeat' first | exact Below.refl _ _ | (with_reducible assumption) | (with_reducible refine bAlloc (by first | omega | (simp <;> omega)) ?_) | (with_reducible refine bSet (by first | omega | (simp <;> omega)) ?_) | (with_reducible refine bDrew ?_) | (with_reducible refine bDrewN ?_) | (with_reducible refine bTrans (by with_reducible assumption) (by first | omega | (simp <;> omega)) ?_))⟩
theorem cmpUW (a b : Int) (w : World) : Calls Tryd.prog 48 #[.int .u64 a, .int .u64 b] w fun e w' => e = .returned (.int .i64 (cmpZ a b)) ∧ w = w' := by
  have hN : ∀ x w, Calls Tryd.prog 69 #[.int .u64 x] w fun e w' => e = .returned (.bool false) ∧ w = w' := fun x w => by
    go_enter Tryd.func69, Tryd.ntmps69
    go_wp2
    go_ret
    exact ⟨rfl, rfl⟩
  rcases cmpZ_cases a b with ⟨h, e⟩ | ⟨h, e⟩ | ⟨h, e⟩
  all_goals
    have he := Lib.hid e
    clear e
    try subst h
    go_enter Tryd.func48, Tryd.ntmps48
    go_wp2_with (go_at_call 69; refine (hN _ _).mono ?_; rintro e w' ⟨rfl, rfl⟩)
    all_goals (go_ret; rw [he.out]; exact ⟨rfl, rfl⟩)
theorem cmpIW (a b : Int) (w : World) : Calls Tryd.prog 29 #[.int .i64 a, .int .i64 b] w fun e w' => e = .returned (.int .i64 (cmpZ a b)) ∧ w = w' := by
  have hN : ∀ x w, Calls Tryd.prog 52 #[.int .i64 x] w fun e w' => e = .returned (.bool false) ∧ w = w' := fun x w => by
    go_enter Tryd.func52, Tryd.ntmps52
    go_wp2
    go_ret
    exact ⟨rfl, rfl⟩
  rcases cmpZ_cases a b with ⟨h, e⟩ | ⟨h, e⟩ | ⟨h, e⟩
  all_goals
    have he := Lib.hid e
    clear e
    try subst h
    go_enter Tryd.func29, Tryd.ntmps29
    go_wp2_with (go_at_call 52; refine (hN _ _).mono ?_; rintro e w' ⟨rfl, rfl⟩)
    all_goals (go_ret; rw [he.out]; exact ⟨rfl, rfl⟩)
theorem orW (b : Nat) (x y : Int) (w : World) (h0 : w.cell? ⟨b, 0, none⟩ = some (.int .i64 x)) (h1 : w.cell? ⟨b, 1, none⟩ = some (.int .i64 y)) :
    Calls Tryd.prog 47 #[.slice (some ⟨b, 0, none⟩) 2 2] w fun e w' => e = .returned (.int .i64 (if x ≠ 0 then x else y)) ∧ w = w' := by
  obtain ⟨V, hV⟩ : ∃ V, (if x ≠ 0 then x else y) = V := ⟨_, rfl⟩
  rw [hV]
  have HV := Lib.hid hV
  clear hV
  go_enter Tryd.func47, Tryd.ntmps47
  go_wp2
  go_loop [5, 8] (fun _ i => i = .int .i64 0 ∨ (x = 0 ∧ i = .int .i64 1) ∨ (x = 0 ∧ y = 0 ∧ i = .int .i64 2)) (fun _ i => 2 - (intOf i).toNat)
  case atStart => exact .inl rfl
  case round =>
    rcases hrel with rfl | ⟨hx, rfl⟩ | ⟨hx, hy, rfl⟩
    · by_cases hx : x = 0
      · subst hx
        go_wp2
        go_round
        case rel => exact .inr (.inl (by simp))
        case measure => simp [intOf]
      · have hb : (x == 0) = false := by simpa using hx
        have hb2 : (x != 0) = true := by simpa using hx
        clear hx
        go_wp2
        go_ret
        rw [← HV.out, if_pos (by simpa using hb)]
        exact ⟨rfl, rfl⟩
    · subst hx
      by_cases hy : y = 0
      · subst hy
        go_wp2
        go_round
        case rel => exact .inr (.inr (by simp))
        case measure => simp [intOf]
      · have hb : (y == 0) = false := by simpa using hy
        have hb2 : (y != 0) = true := by simpa using hy
        clear hy
        go_wp2
        go_ret
        rw [← HV.out, if_neg (by simp)]
        exact ⟨rfl, rfl⟩
    · subst hx hy
      go_wp2
      go_ret
      rw [← HV.out, if_neg (by simp)]
      exact ⟨rfl, rfl⟩
end Go.Proofs.YtgnmjopifdekiaaDoor
