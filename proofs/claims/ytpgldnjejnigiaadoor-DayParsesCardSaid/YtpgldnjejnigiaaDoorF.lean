/-
  Days: the reference's Rests, Works.
-/
import Derived.Test.YtpgldnjejnigiaaDoorE
namespace Go.Proofs.YtpgldnjejnigiaaDoor
open Go.RowKit

theorem restsB_no {c : Cal} (d : Int) (h : mayB c = false) : restsB c d = false := by
  unfold restsB ownC
  rw [h]
  simp [restsC, hasI]
theorem restsB_yes {c : Cal} {d : Int} (h : mayB c = true) (hd : isD d = true) : restsB c d = (hasI c.rest (d.tmod 7) || hasI c.hol d) := by
  unfold restsB ownC
  rw [h, hd]
  rfl
set_option maxHeartbeats 1000000 in
theorem refRestsW (x : Cv) (c : Cal) (d : Int) (w : World) (hr : Rc w x c) :
    Calls Tryd.prog 25 #[x.v, .int .i64 d] w fun e w' => e = .returned (.bool (restsB c d)) ∧ Below w.heap.size w w' := by
  have hI := fun w => refIsW d w
  have hM := fun w' (hb : Below w.heap.size w w') => refMayW x c w' (hr.next hb)
  cases hd : isD d with
  | false =>
    have he := Lib.hid (show restsB c d = false by unfold restsB; rw [hd]; rfl)
    simp only [hd] at hI
    clear hd
    go_enter Tryd.func25, Tryd.ntmps25
    go_wp2_with (go_at_call 14; refine (hI _).mono ?_; rintro e w' ⟨rfl, rfl⟩)
    all_goals (go_ret; go_light; rw [he.out]; exact ⟨rfl, by (repeat' first | exact Below.refl _ _ | (with_reducible assumption) | (with_reducible refine bAlloc (by first | omega | (simp <;> omega)) ?_) | (with_reducible refine bSet (by first | omega | (simp <;> omega)) ?_) | (with_reducible refine bDrew ?_) | (with_reducible refine bDrewN ?_) | (with_reducible refine bTrans (by with_reducible assumption) (by first | omega | (simp <;> omega)) ?_))⟩)
  | true =>
  have h0 : 0 ≤ d ∧ d ≤ 1048576 := by unfold isD at hd; simpa using hd
  obtain ⟨h0, h1⟩ := h0
  cases hm : mayB c with
  | false =>
    have he := Lib.hid (restsB_no d hm)
    simp only [hd] at hI
    simp only [hm] at hM
    clear hd hm
    go_enter Tryd.func25, Tryd.ntmps25
    go_wp2_with (first | (go_at_call 14; refine (hI _).mono ?_; rintro e w' ⟨rfl, rfl⟩) | (go_at_call 22; refine (hM _ (by (repeat' first | exact Below.refl _ _ | (with_reducible assumption) | (with_reducible refine bAlloc (by first | omega | (simp <;> omega)) ?_) | (with_reducible refine bSet (by first | omega | (simp <;> omega)) ?_) | (with_reducible refine bDrew ?_) | (with_reducible refine bDrewN ?_) | (with_reducible refine bTrans (by with_reducible assumption) (by first | omega | (simp <;> omega)) ?_)))).mono ?_; rintro e w1 ⟨rfl, hxb⟩; (obtain ⟨hxc, hxf⟩ := bcell hxb; have hxz := hxb.size; (try simp [Nat.succ_le_iff] at hxz); (try have hxy := Nat.lt_of_succ_lt hxz); (try have hxy2 := Nat.lt_of_succ_lt hxy); (try have hxy3 := Nat.lt_of_succ_lt hxy2); (try have hxy4 := Nat.lt_of_succ_lt hxy3); have hxB : Below w.heap.size w w1 := (by (repeat' first | exact Below.refl _ _ | (with_reducible assumption) | (with_reducible refine bAlloc (by first | omega | (simp <;> omega)) ?_) | (with_reducible refine bSet (by first | omega | (simp <;> omega)) ?_) | (with_reducible refine bDrew ?_) | (with_reducible refine bDrewN ?_) | (with_reducible refine bTrans (by with_reducible assumption) (by first | omega | (simp <;> omega)) ?_))); have hxk := below_all hxB; (try have hxl0 : w.heap.size < w1.heap.size := (by omega)); (try have hxl1 : w.heap.size + 1 < w1.heap.size := (by omega)); (try have hxl2 : w.heap.size + 2 < w1.heap.size := (by omega)))))
    all_goals (go_ret; go_light; rw [he.out]; exact ⟨rfl, by (repeat' first | exact Below.refl _ _ | (with_reducible assumption) | (with_reducible refine bAlloc (by first | omega | (simp <;> omega)) ?_) | (with_reducible refine bSet (by first | omega | (simp <;> omega)) ?_) | (with_reducible refine bDrew ?_) | (with_reducible refine bDrewN ?_) | (with_reducible refine bTrans (by with_reducible assumption) (by first | omega | (simp <;> omega)) ?_))⟩)
  | true =>
    have he := Lib.hid (restsB_yes hm hd)
    have ht := Lib.hid (Int.tmod_eq_emod_of_nonneg (b := 7) h0)
    simp only [hd] at hI
    simp only [hm] at hM
    clear hd hm
    go_enter Tryd.func25, Tryd.ntmps25
    go_wp2_with (first | (go_at_call 14; refine (hI _).mono ?_; rintro e w' ⟨rfl, rfl⟩) | (go_at_call 22; refine (hM _ (by (repeat' first | exact Below.refl _ _ | (with_reducible assumption) | (with_reducible refine bAlloc (by first | omega | (simp <;> omega)) ?_) | (with_reducible refine bSet (by first | omega | (simp <;> omega)) ?_) | (with_reducible refine bDrew ?_) | (with_reducible refine bDrewN ?_) | (with_reducible refine bTrans (by with_reducible assumption) (by first | omega | (simp <;> omega)) ?_)))).mono ?_; rintro e w1 ⟨rfl, hxb⟩; (obtain ⟨hxc, hxf⟩ := bcell hxb; have hxz := hxb.size; (try simp [Nat.succ_le_iff] at hxz); (try have hxy := Nat.lt_of_succ_lt hxz); (try have hxy2 := Nat.lt_of_succ_lt hxy); (try have hxy3 := Nat.lt_of_succ_lt hxy2); (try have hxy4 := Nat.lt_of_succ_lt hxy3); have hxB : Below w.heap.size w w1 := (by (repeat' first | exact Below.refl _ _ | (with_reducible assumption) | (with_reducible refine bAlloc (by first | omega | (simp <;> omega)) ?_) | (with_reducible refine bSet (by first | omega | (simp <;> omega)) ?_) | (with_reducible refine bDrew ?_) | (with_reducible refine bDrewN ?_) | (with_reducible refine bTrans (by with_reducible assumption) (by first | omega | (simp <;> omega)) ?_))); have hxk := below_all hxB; (try have hxl0 : w.heap.size < w1.heap.size := (by omega)); (try have hxl1 : w.heap.size + 1 < w1.heap.size := (by omega)); (try have hxl2 : w.heap.size + 2 < w1.heap.size := (by omega)))) | (go_at_call 45; with_reducible refine (refInW _ _ _ _ _ _ (hr.r1.next (by (repeat' first | exact Below.refl _ _ | (with_reducible assumption) | (with_reducible refine bAlloc (by first | omega | (simp <;> omega)) ?_) | (with_reducible refine bSet (by first | omega | (simp <;> omega)) ?_) | (with_reducible refine bDrew ?_) | (with_reducible refine bDrewN ?_) | (with_reducible refine bTrans (by with_reducible assumption) (by first | omega | (simp <;> omega)) ?_)))) hr.b1).mono ?_; rintro e w' ⟨rfl, rfl⟩) | (go_at_call 45; refine (refInW _ _ _ _ _ _ (hr.r2.next (by (repeat' first | exact Below.refl _ _ | (with_reducible assumption) | (with_reducible refine bAlloc (by first | omega | (simp <;> omega)) ?_) | (with_reducible refine bSet (by first | omega | (simp <;> omega)) ?_) | (with_reducible refine bDrew ?_) | (with_reducible refine bDrewN ?_) | (with_reducible refine bTrans (by with_reducible assumption) (by first | omega | (simp <;> omega)) ?_)))) hr.b2).mono ?_; rintro e w' ⟨rfl, rfl⟩))
    all_goals (go_ret; go_light; refine ⟨ret_bool ?_, by (repeat' first | exact Below.refl _ _ | (with_reducible assumption) | (with_reducible refine bAlloc (by first | omega | (simp <;> omega)) ?_) | (with_reducible refine bSet (by first | omega | (simp <;> omega)) ?_) | (with_reducible refine bDrew ?_) | (with_reducible refine bDrewN ?_) | (with_reducible refine bTrans (by with_reducible assumption) (by first | omega | (simp <;> omega)) ?_))⟩; have a := he.out; have b := ht.out; rw [a, b]; simp_all)
theorem worksW (x : Cv) (c : Cal) (d : Int) (w : World) (hr : Rc w x c) :
    Calls Tryd.prog 28 #[x.v, .int .i64 d] w fun e w' => e = .returned (.bool (isD d && !restsB c d)) ∧ Below w.heap.size w w' := by
  have hI := fun w => refIsW d w
  have hR := fun w' (hb : Below w.heap.size w w') => refRestsW x c d w' (hr.next hb)
  go_enter Tryd.func28, Tryd.ntmps28
  go_wp2_with (first | (go_at_call 14; refine (hI _).mono ?_; rintro e w' ⟨rfl, rfl⟩) | (go_at_call 25; refine (hR _ (by (repeat' first | exact Below.refl _ _ | (with_reducible assumption) | (with_reducible refine bAlloc (by first | omega | (simp <;> omega)) ?_) | (with_reducible refine bSet (by first | omega | (simp <;> omega)) ?_) | (with_reducible refine bDrew ?_) | (with_reducible refine bDrewN ?_) | (with_reducible refine bTrans (by with_reducible assumption) (by first | omega | (simp <;> omega)) ?_)))).mono ?_; rintro e w1 ⟨rfl, hxb⟩; (obtain ⟨hxc, hxf⟩ := bcell hxb; have hxz := hxb.size; (try simp [Nat.succ_le_iff] at hxz); (try have hxy := Nat.lt_of_succ_lt hxz); (try have hxy2 := Nat.lt_of_succ_lt hxy); (try have hxy3 := Nat.lt_of_succ_lt hxy2); (try have hxy4 := Nat.lt_of_succ_lt hxy3); have hxB : Below w.heap.size w w1 := (by (repeat' first | exact Below.refl _ _ | (with_reducible assumption) | (with_reducible refine bAlloc (by first | omega | (simp <;> omega)) ?_) | (with_reducible refine bSet (by first | omega | (simp <;> omega)) ?_) | (with_reducible refine bDrew ?_) | (with_reducible refine bDrewN ?_) | (with_reducible refine bTrans (by with_reducible assumption) (by first | omega | (simp <;> omega)) ?_))); have hxk := below_all hxB; (try have hxl0 : w.heap.size < w1.heap.size := (by omega)); (try have hxl1 : w.heap.size + 1 < w1.heap.size := (by omega)); (try have hxl2 : w.heap.size + 2 < w1.heap.size := (by omega)))))
  all_goals (go_ret; go_light; refine ⟨ret_bool ?_, by (repeat' first | exact Below.refl _ _ | (with_reducible assumption) | (with_reducible refine bAlloc (by first | omega | (simp <;> omega)) ?_) | (with_reducible refine bSet (by first | omega | (simp <;> omega)) ?_) | (with_reducible refine bDrew ?_) | (with_reducible refine bDrewN ?_) | (with_reducible refine bTrans (by with_reducible assumption) (by first | omega | (simp <;> omega)) ?_))⟩; simp_all)
end Go.Proofs.YtpgldnjejnigiaaDoor
