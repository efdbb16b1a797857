/-
  Days: which days rest.
-/
import Derived.Test.YtpgldnjejnigiaaDoorC
namespace Go.Proofs.YtpgldnjejnigiaaDoor
open Go.RowKit

theorem rise_pair (l : List Int) (m : Int) (h : riseF l m 0 = true) : l.Pairwise (· < ·) := by
  rw [List.pairwise_iff_getElem]
  have hs : ∀ k, k + 1 < l.length → l.getD k 0 < l.getD (k + 1) 0 := fun k hk => by
    unfold riseF at h
    rw [List.all_eq_true] at h
    have := h (k + 1) (by rw [List.mem_range'_1]; omega)
    unfold badAt at this
    simp at this
    have h3 := this.2
    rw [List.getElem?_eq_getElem (by omega), List.getElem?_eq_getElem (by omega)] at h3
    rw [getD_get l k (by omega), getD_get l (k + 1) hk]
    simpa using h3
  intro i j hi hj hij
  have : ∀ d, i + d + 1 < l.length → l.getD i 0 < l.getD (i + d + 1) 0 := fun d => by
    induction d with
    | zero => intro hd; exact hs i hd
    | succ d ih => intro hd; exact Int.lt_trans (ih (by omega)) (hs (i + d + 1) (by omega))
  have h2 := this (j - i - 1) (by omega)
  rw [show i + (j - i - 1) + 1 = j by omega, getD_get l i hi, getD_get l j hj] at h2
  exact h2
theorem may_sorted {c : Cal} (h : mayB c = true) : c.hol.Pairwise (· ≤ ·) := by
  unfold mayB riseB at h
  simp only [Bool.and_eq_true] at h
  exact (rise_pair c.hol _ h.2.1).imp fun h => Int.le_of_lt h
/-- by a calendar that may be -/
def restsC (c : Cal) (d : Int) : Bool := hasI c.rest (d.tmod 7) || hasI c.hol d
def restsB (c : Cal) (d : Int) : Bool := isD d && restsC (ownC c) d
theorem freeW (x : Cv) (c : Cal) (d : Int) (w : World) (hr : Rc w x c) (hm : mayB c = true) :
    Calls Tryd.prog 57 #[x.v, .int .i64 d] w fun e w' => e = .returned (.bool (hasI c.hol d)) ∧ Below w.heap.size w w' := by
  have hs := Lib.hid (may_sorted hm)
  clear hm
  go_enter Tryd.func57, Tryd.ntmps57
  go_wp2_with (go_at_call 62; refine (searchW _ _ _ _ _ _ (hr.r2.next (by (repeat' first | exact Below.refl _ _ | (with_reducible assumption) | (with_reducible refine bAlloc (by first | omega | (simp <;> omega)) ?_) | (with_reducible refine bSet (by first | omega | (simp <;> omega)) ?_) | (with_reducible refine bDrew ?_) | (with_reducible refine bDrewN ?_) | (with_reducible refine bTrans (by with_reducible assumption) (by first | omega | (simp <;> omega)) ?_)))) hr.b2 hs.out).mono ?_; rintro e w1 ⟨rfl, hxb⟩; (obtain ⟨hxc, hxf⟩ := bcell hxb; have hxz := hxb.size; (try simp [Nat.succ_le_iff] at hxz); (try have hxy := Nat.lt_of_succ_lt hxz); (try have hxy2 := Nat.lt_of_succ_lt hxy); (try have hxy3 := Nat.lt_of_succ_lt hxy2); (try have hxy4 := Nat.lt_of_succ_lt hxy3); have hxB : Below w.heap.size w w1 := (by (repeat' first | exact Below.refl _ _ | (with_reducible assumption) | (with_reducible refine bAlloc (by first | omega | (simp <;> omega)) ?_) | (with_reducible refine bSet (by first | omega | (simp <;> omega)) ?_) | (with_reducible refine bDrew ?_) | (with_reducible refine bDrewN ?_) | (with_reducible refine bTrans (by with_reducible assumption) (by first | omega | (simp <;> omega)) ?_))); have hxk := below_all hxB; (try have hxl0 : w.heap.size < w1.heap.size := (by omega)); (try have hxl1 : w.heap.size + 1 < w1.heap.size := (by omega)); (try have hxl2 : w.heap.size + 2 < w1.heap.size := (by omega))))
  all_goals (go_ret; go_light; exact ⟨rfl, by (repeat' first | exact Below.refl _ _ | (with_reducible assumption) | (with_reducible refine bAlloc (by first | omega | (simp <;> omega)) ?_) | (with_reducible refine bSet (by first | omega | (simp <;> omega)) ?_) | (with_reducible refine bDrew ?_) | (with_reducible refine bDrewN ?_) | (with_reducible refine bTrans (by with_reducible assumption) (by first | omega | (simp <;> omega)) ?_))⟩)
theorem restsW (x : Cv) (c : Cal) (d : Int) (w : World) (hr : Rc w x c) (hm : mayB c = true) (hd : isD d = true) :
    Calls Tryd.prog 43 #[x.v, .int .i64 d] w fun e w' => e = .returned (.bool (restsC c d)) ∧ Below w.heap.size w w' := by
  have hF := fun w' (hb : Below w.heap.size w w') => freeW x c d w' (hr.next hb) hm
  have hD := Lib.hid hd
  clear hd hm
  go_enter Tryd.func43, Tryd.ntmps43
  go_wp2_with (first | (go_at_call 56; refine (containsW _ _ _ _ _ _ (hr.r1.next (by (repeat' first | exact Below.refl _ _ | (with_reducible assumption) | (with_reducible refine bAlloc (by first | omega | (simp <;> omega)) ?_) | (with_reducible refine bSet (by first | omega | (simp <;> omega)) ?_) | (with_reducible refine bDrew ?_) | (with_reducible refine bDrewN ?_) | (with_reducible refine bTrans (by with_reducible assumption) (by first | omega | (simp <;> omega)) ?_)))) hr.b1).mono ?_; rintro e w' ⟨rfl, rfl⟩) | (go_at_call 57; refine (hF _ (by (repeat' first | exact Below.refl _ _ | (with_reducible assumption) | (with_reducible refine bAlloc (by first | omega | (simp <;> omega)) ?_) | (with_reducible refine bSet (by first | omega | (simp <;> omega)) ?_) | (with_reducible refine bDrew ?_) | (with_reducible refine bDrewN ?_) | (with_reducible refine bTrans (by with_reducible assumption) (by first | omega | (simp <;> omega)) ?_)))).mono ?_; rintro e w1 ⟨rfl, hxb⟩; (obtain ⟨hxc, hxf⟩ := bcell hxb; have hxz := hxb.size; (try simp [Nat.succ_le_iff] at hxz); (try have hxy := Nat.lt_of_succ_lt hxz); (try have hxy2 := Nat.lt_of_succ_lt hxy); (try have hxy3 := Nat.lt_of_succ_lt hxy2); (try have hxy4 := Nat.lt_of_succ_lt hxy3); have hxB : Below w.heap.size w w1 := (by (repeat' first | exact Below.refl _ _ | (with_reducible assumption) | (with_reducible refine bAlloc (by first | omega | (simp <;> omega)) ?_) | (with_reducible refine bSet (by first | omega | (simp <;> omega)) ?_) | (with_reducible refine bDrew ?_) | (with_reducible refine bDrewN ?_) | (with_reducible refine bTrans (by with_reducible assumption) (by first | omega | (simp <;> omega)) ?_))); have hxk := below_all hxB; (try have hxl0 : w.heap.size < w1.heap.size := (by omega)); (try have hxl1 : w.heap.size + 1 < w1.heap.size := (by omega)); (try have hxl2 : w.heap.size + 2 < w1.heap.size := (by omega)))))
  all_goals (go_ret; go_light; refine ⟨ret_bool ?_, by (repeat' first | exact Below.refl _ _ | (with_reducible assumption) | (with_reducible refine bAlloc (by first | omega | (simp <;> omega)) ?_) | (with_reducible refine bSet (by first | omega | (simp <;> omega)) ?_) | (with_reducible refine bDrew ?_) | (with_reducible refine bDrewN ?_) | (with_reducible refine bTrans (by with_reducible assumption) (by first | omega | (simp <;> omega)) ?_))⟩; unfold restsC; simp_all)
end Go.Proofs.YtpgldnjejnigiaaDoor
