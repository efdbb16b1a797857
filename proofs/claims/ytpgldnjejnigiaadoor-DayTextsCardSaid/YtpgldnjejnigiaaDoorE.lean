/-
  Days: Rests, Weekday, heavy; the reference's.
-/
import Derived.Test.YtpgldnjejnigiaaDoorD
namespace Go.Proofs.YtpgldnjejnigiaaDoor
open Go.RowKit

theorem RestsW (x : Cv) (c : Cal) (d : Int) (w : World) (hr : Rc w x c) :
    Calls Tryd.prog 24 #[x.v, .int .i64 d] w fun e w' => e = .returned (.bool (restsB c d)) ∧ Below w.heap.size w w' := by
  have hI := fun w => isW d w
  have hO := fun w' (hb : Below w.heap.size w w') => ownW x c w' (hr.next hb)
  cases hd : isD d with
  | false =>
    have he := Lib.hid (show restsB c d = false by unfold restsB; rw [hd]; rfl)
    simp only [hd] at hI
    clear hd
    go_enter Tryd.func24, Tryd.ntmps24
    go_wp2_with (go_at_call 33; refine (hI _).mono ?_; rintro e w' ⟨rfl, rfl⟩)
    all_goals (go_ret; go_light; rw [he.out]; exact ⟨rfl, by (repeat' first | exact Below.refl _ _ | (with_reducible assumption) | (with_reducible refine bAlloc (by first | omega | (simp <;> omega)) ?_) | (with_reducible refine bSet (by first | omega | (simp <;> omega)) ?_) | (with_reducible refine bDrew ?_) | (with_reducible refine bDrewN ?_) | (with_reducible refine bTrans (by with_reducible assumption) (by first | omega | (simp <;> omega)) ?_))⟩)
  | true =>
    have hR := fun w' (hb : Below w.heap.size w w') => restsW (ownV x c) (ownC c) d w' (hr.next hb).own (own_may c) hd
    have he := Lib.hid (show restsB c d = restsC (ownC c) d by unfold restsB; rw [hd]; rfl)
    simp only [hd] at hI
    clear hd
    generalize ownV x c = y at *
    go_enter Tryd.func24, Tryd.ntmps24
    go_wp2_with (first | (go_at_call 33; refine (hI _).mono ?_; rintro e w' ⟨rfl, rfl⟩) | (go_at_call 44; refine (hO _ (by (repeat' first | exact Below.refl _ _ | (with_reducible assumption) | (with_reducible refine bAlloc (by first | omega | (simp <;> omega)) ?_) | (with_reducible refine bSet (by first | omega | (simp <;> omega)) ?_) | (with_reducible refine bDrew ?_) | (with_reducible refine bDrewN ?_) | (with_reducible refine bTrans (by with_reducible assumption) (by first | omega | (simp <;> omega)) ?_)))).mono ?_; rintro e w1 ⟨rfl, hxb⟩; (obtain ⟨hxc, hxf⟩ := bcell hxb; have hxz := hxb.size; (try simp [Nat.succ_le_iff] at hxz); (try have hxy := Nat.lt_of_succ_lt hxz); (try have hxy2 := Nat.lt_of_succ_lt hxy); (try have hxy3 := Nat.lt_of_succ_lt hxy2); (try have hxy4 := Nat.lt_of_succ_lt hxy3); have hxB : Below w.heap.size w w1 := (by (repeat' first | exact Below.refl _ _ | (with_reducible assumption) | (with_reducible refine bAlloc (by first | omega | (simp <;> omega)) ?_) | (with_reducible refine bSet (by first | omega | (simp <;> omega)) ?_) | (with_reducible refine bDrew ?_) | (with_reducible refine bDrewN ?_) | (with_reducible refine bTrans (by with_reducible assumption) (by first | omega | (simp <;> omega)) ?_))); have hxk := below_all hxB; (try have hxl0 : w.heap.size < w1.heap.size := (by omega)); (try have hxl1 : w.heap.size + 1 < w1.heap.size := (by omega)); (try have hxl2 : w.heap.size + 2 < w1.heap.size := (by omega)))) | (go_at_call 43; refine (hR _ (by (repeat' first | exact Below.refl _ _ | (with_reducible assumption) | (with_reducible refine bAlloc (by first | omega | (simp <;> omega)) ?_) | (with_reducible refine bSet (by first | omega | (simp <;> omega)) ?_) | (with_reducible refine bDrew ?_) | (with_reducible refine bDrewN ?_) | (with_reducible refine bTrans (by with_reducible assumption) (by first | omega | (simp <;> omega)) ?_)))).mono ?_; rintro e w1 ⟨rfl, hxb⟩; (obtain ⟨hxc, hxf⟩ := bcell hxb; have hxz := hxb.size; (try simp [Nat.succ_le_iff] at hxz); (try have hxy := Nat.lt_of_succ_lt hxz); (try have hxy2 := Nat.lt_of_succ_lt hxy); (try have hxy3 := Nat.lt_of_succ_lt hxy2); (try have hxy4 := Nat.lt_of_succ_lt hxy3); have hxB : Below w.heap.size w w1 := (by (repeat' first | exact Below.refl _ _ | (with_reducible assumption) | (with_reducible refine bAlloc (by first | omega | (simp <;> omega)) ?_) | (with_reducible refine bSet (by first | omega | (simp <;> omega)) ?_) | (with_reducible refine bDrew ?_) | (with_reducible refine bDrewN ?_) | (with_reducible refine bTrans (by with_reducible assumption) (by first | omega | (simp <;> omega)) ?_))); have hxk := below_all hxB; (try have hxl0 : w.heap.size < w1.heap.size := (by omega)); (try have hxl1 : w.heap.size + 1 < w1.heap.size := (by omega)); (try have hxl2 : w.heap.size + 2 < w1.heap.size := (by omega)))))
    all_goals (go_ret; go_light; rw [he.out]; exact ⟨rfl, by (repeat' first | exact Below.refl _ _ | (with_reducible assumption) | (with_reducible refine bAlloc (by first | omega | (simp <;> omega)) ?_) | (with_reducible refine bSet (by first | omega | (simp <;> omega)) ?_) | (with_reducible refine bDrew ?_) | (with_reducible refine bDrewN ?_) | (with_reducible refine bTrans (by with_reducible assumption) (by first | omega | (simp <;> omega)) ?_))⟩)
def wdZ (d : Int) : Int := if isD d then d.tmod 7 else -1
theorem WeekdayW (d : Int) (w : World) : Calls Tryd.prog 23 #[.int .i64 d] w fun e w' => e = .returned (.int .i64 (wdZ d)) ∧ w = w' := by
  have hI := fun w => isW d w
  cases hd : isD d with
  | false =>
    have he := Lib.hid (show wdZ d = -1 by unfold wdZ; rw [hd]; rfl)
    simp only [hd] at hI
    clear hd
    go_enter Tryd.func23, Tryd.ntmps23
    go_wp2_with (go_at_call 33; refine (hI _).mono ?_; rintro e w' ⟨rfl, rfl⟩)
    all_goals (go_ret; go_light; rw [he.out]; exact ⟨rfl, rfl⟩)
  | true =>
    have he := Lib.hid (show wdZ d = d.tmod 7 by unfold wdZ; rw [hd]; rfl)
    simp only [hd] at hI
    have h0 : 0 ≤ d ∧ d ≤ 1048576 := by unfold isD at hd; simpa using hd
    obtain ⟨h0, h1⟩ := h0
    clear hd
    go_enter Tryd.func23, Tryd.ntmps23
    go_wp2_with (go_at_call 33; refine (hI _).mono ?_; rintro e w' ⟨rfl, rfl⟩)
    all_goals (go_ret; go_light; refine ⟨ret_int ?_, rfl⟩; rw [he.out]; try (first | rfl | exact (Int.tmod_eq_emod_of_nonneg h0).symm))
def heavyB (c : Cal) : Bool := decide ((c.rest.length : Int) > 20) || decide ((c.hol.length : Int) > 60)
theorem heavyW (x : Cv) (c : Cal) (w : World) (r1 : Ri w x.A1 x.n1 c.rest) (r2 : Ri w x.A2 x.n2 c.hol) :
    Calls Tryd.prog 16 #[x.v] w fun e w' => e = .returned (.bool (heavyB c)) ∧ Below w.heap.size w w' := by
  have e1 := Lib.hid r1.len
  have e2 := Lib.hid r2.len
  go_enter Tryd.func16, Tryd.ntmps16
  go_wp2
  all_goals (go_ret; go_light; refine ⟨ret_bool ?_, by (repeat' first | exact Below.refl _ _ | (with_reducible assumption) | (with_reducible refine bAlloc (by first | omega | (simp <;> omega)) ?_) | (with_reducible refine bSet (by first | omega | (simp <;> omega)) ?_) | (with_reducible refine bDrew ?_) | (with_reducible refine bDrewN ?_) | (with_reducible refine bTrans (by with_reducible assumption) (by first | omega | (simp <;> omega)) ?_))⟩; have a := e1.out; have b := e2.out; unfold heavyB; rw [← a, ← b]; simp_all; try omega)
theorem heavy_no {w : World} {x : Cv} {c : Cal} (r1 : Ri w x.A1 x.n1 c.rest) (r2 : Ri w x.A2 x.n2 c.hol) (h : heavyB c = false) : Rc w x c := by
  have e1 := r1.len
  have e2 := r2.len
  unfold heavyB at h
  simp at h
  exact ⟨r1, r2, by omega, by omega⟩
end Go.Proofs.YtpgldnjejnigiaaDoor
