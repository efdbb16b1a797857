/-
  The walks of the functions on one endorsement and on a row of them.
-/
import Derived.Test.YtifconpldnobkaaA
namespace Go.Proofs.Ytifconpldnobkaa
open Go.RowKit

abbrev En.v (x : En) : Value := .agg #[.string x.frm, .string x.to, .int .i64 x.kind, .int .i64 x.day]
abbrev Ch.v (x : Ch) : Value := .agg #[.string x.holder, .bool x.blank, .bool x.ended, .int .i64 x.day]

set_option maxHeartbeats 400000 in
theorem right27 (x : En) (w : World) (h1 : x.frm.size ≤ maxLen) (h2 : x.to.size ≤ maxLen) :
    Calls Try.prog 27 #[x.v] w fun e w' => e = .returned (.bool (rightB x)) ∧ Below w.heap.size w w' := by
  go_enter Try.func27, Try.ntmps27
  go_wp2_with (go_at_call 14; refine (name14 _ _ (by assumption)).mono ?_; rintro e w' ⟨rfl, rfl⟩)
  all_goals (go_ret; go_light; refine ⟨ret_bool ?_, (Below.refl _ _).alloc (Nat.le_refl _) _⟩; unfold rightB; simp_all; try omega)
set_option maxHeartbeats 400000 in
theorem right28 (x : En) (w : World) (h1 : x.frm.size ≤ maxLen) (h2 : x.to.size ≤ maxLen) :
    Calls Try.prog 28 #[x.v] w fun e w' => e = .returned (.bool (rightB x)) ∧ Below w.heap.size w w' := by
  go_enter Try.func28, Try.ntmps28
  go_wp2_with (go_at_call 19; refine (name19 _ _ (by assumption)).mono ?_; rintro e w' ⟨rfl, rfl⟩)
  all_goals (go_ret; go_light; refine ⟨ret_bool ?_, (Below.refl _ _).alloc (Nat.le_refl _) _⟩; unfold rightB; simp_all; try omega)

set_option maxHeartbeats 400000 in
theorem wrong21 (c : Ch) (x : En) (w : World) (h1 : x.frm.size ≤ maxLen) (h2 : x.to.size ≤ maxLen) :
    Calls Try.prog 21 #[c.v, x.v] w fun e w' => e = .returned (.int .i64 (wrongP c x)) ∧ Below w.heap.size w w' := by
  go_enter Try.func21, Try.ntmps21
  go_wp2_with (go_at_call 28; refine (right28 x _ h1 h2).mono ?_; rintro e w1 ⟨rfl, hxb⟩; (obtain ⟨hxc, hxf⟩ := bcell hxb; have hxz := hxb.size; (try simp [Nat.succ_le_iff] at hxz); (try have hxy := Nat.lt_of_succ_lt hxz); (try have hxy2 := Nat.lt_of_succ_lt hxy); (try have hxy3 := Nat.lt_of_succ_lt hxy2); (try have hxy4 := Nat.lt_of_succ_lt hxy3); have hxB : Below w.heap.size w w1 := (by (repeat' first | exact Below.refl _ _ | (with_reducible assumption) | (with_reducible refine bAlloc (by first | omega | (simp <;> omega)) ?_) | (with_reducible refine bSet (by first | omega | (simp <;> omega)) ?_) | (with_reducible refine bDrew ?_) | (with_reducible refine bDrewN ?_) | (with_reducible refine bTrans (by with_reducible assumption) (by first | omega | (simp <;> omega)) ?_))); have hxk := below_all hxB; (try have hxl0 : w.heap.size < w1.heap.size := (by omega)); (try have hxl1 : w.heap.size + 1 < w1.heap.size := (by omega)); (try have hxl2 : w.heap.size + 2 < w1.heap.size := (by omega))))
  all_goals
    go_ret
    go_light
    refine ⟨ret_int ?_, ?_⟩
    · unfold wrongP; simp_all <;> omega
    · (repeat' first | exact Below.refl _ _ | (with_reducible assumption) | (with_reducible refine bAlloc (by first | omega | (simp <;> omega)) ?_) | (with_reducible refine bSet (by first | omega | (simp <;> omega)) ?_) | (with_reducible refine bDrew ?_) | (with_reducible refine bDrewN ?_) | (with_reducible refine bTrans (by with_reducible assumption) (by first | omega | (simp <;> omega)) ?_))
set_option maxHeartbeats 400000 in
theorem on22 (x : En) (w : World) :
    Calls Try.prog 22 #[x.v] w fun e w' => e = .returned (onP x).v ∧ Below w.heap.size w w' := by
  go_enter Try.func22, Try.ntmps22
  go_wp2
  refine bodyPost_ret (v := (onP x).v) (by simp [results, Try.results22, go_sem, onP]) rfl ⟨rfl, ?_⟩
  (repeat' first | exact Below.refl _ _ | (with_reducible assumption) | (with_reducible refine bAlloc (by first | omega | (simp <;> omega)) ?_) | (with_reducible refine bSet (by first | omega | (simp <;> omega)) ?_) | (with_reducible refine bDrew ?_) | (with_reducible refine bDrewN ?_) | (with_reducible refine bTrans (by with_reducible assumption) (by first | omega | (simp <;> omega)) ?_))

end Go.Proofs.Ytifconpldnobkaa
