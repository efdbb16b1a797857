/-
  Days: calendars.
-/
import Derived.Test.YtpgldnjejnigiaaDoorB
namespace Go.Proofs.YtpgldnjejnigiaaDoor
open Go.RowKit

structure Cal where
  rest : List Int
  hol : List Int
def mayB (c : Cal) : Bool := riseB c.rest 6 && riseB c.hol 1048576
/-- the value of a calendar -/
structure Cv where
  (A1 : Option Addr) (n1 c1 : Nat) (A2 : Option Addr) (n2 c2 : Nat)
abbrev Cv.v (x : Cv) : Value := .agg #[.slice x.A1 x.n1 x.c1, .slice x.A2 x.n2 x.c2]
/-- a calendar's value reads as a calendar -/
structure Rc (w : World) (x : Cv) (c : Cal) : Prop where
  r1 : Ri w x.A1 x.n1 c.rest
  r2 : Ri w x.A2 x.n2 c.hol
  b1 : x.n1 < 4611686018427387904
  b2 : x.n2 < 4611686018427387904
theorem Rc.next {w w' : World} {x : Cv} {c : Cal} (h : Rc w x c) (hb : Below w.heap.size w w') : Rc w' x c := ⟨h.r1.next hb, h.r2.next hb, h.b1, h.b2⟩
theorem mayW (x : Cv) (c : Cal) (w : World) (hr : Rc w x c) :
    Calls Tryd.prog 21 #[x.v] w fun e w' => e = .returned (.bool (mayB c)) ∧ Below w.heap.size w w' := by
  go_enter Tryd.func21, Tryd.ntmps21
  go_wp2_with (first | (go_at_call 41; with_reducible refine (risesW _ _ _ _ _ _ (hr.r1.next (by (repeat' first | exact Below.refl _ _ | (with_reducible assumption) | (with_reducible refine bAlloc (by first | omega | (simp <;> omega)) ?_) | (with_reducible refine bSet (by first | omega | (simp <;> omega)) ?_) | (with_reducible refine bDrew ?_) | (with_reducible refine bDrewN ?_) | (with_reducible refine bTrans (by with_reducible assumption) (by first | omega | (simp <;> omega)) ?_)))) hr.b1).mono ?_; rintro e w' ⟨rfl, rfl⟩) | (go_at_call 41; refine (risesW _ _ _ _ _ _ (hr.r2.next (by (repeat' first | exact Below.refl _ _ | (with_reducible assumption) | (with_reducible refine bAlloc (by first | omega | (simp <;> omega)) ?_) | (with_reducible refine bSet (by first | omega | (simp <;> omega)) ?_) | (with_reducible refine bDrew ?_) | (with_reducible refine bDrewN ?_) | (with_reducible refine bTrans (by with_reducible assumption) (by first | omega | (simp <;> omega)) ?_)))) hr.b2).mono ?_; rintro e w' ⟨rfl, rfl⟩))
  all_goals (go_ret; go_light; refine ⟨ret_bool ?_, by (repeat' first | exact Below.refl _ _ | (with_reducible assumption) | (with_reducible refine bAlloc (by first | omega | (simp <;> omega)) ?_) | (with_reducible refine bSet (by first | omega | (simp <;> omega)) ?_) | (with_reducible refine bDrew ?_) | (with_reducible refine bDrewN ?_) | (with_reducible refine bTrans (by with_reducible assumption) (by first | omega | (simp <;> omega)) ?_))⟩; unfold mayB; simp_all)

theorem refMayW (x : Cv) (c : Cal) (w : World) (hr : Rc w x c) :
    Calls Tryd.prog 22 #[x.v] w fun e w' => e = .returned (.bool (mayB c)) ∧ Below w.heap.size w w' := by
  go_enter Tryd.func22, Tryd.ntmps22
  go_wp2_with (first | (go_at_call 42; with_reducible refine (refRisesW _ _ _ _ _ _ (hr.r1.next (by (repeat' first | exact Below.refl _ _ | (with_reducible assumption) | (with_reducible refine bAlloc (by first | omega | (simp <;> omega)) ?_) | (with_reducible refine bSet (by first | omega | (simp <;> omega)) ?_) | (with_reducible refine bDrew ?_) | (with_reducible refine bDrewN ?_) | (with_reducible refine bTrans (by with_reducible assumption) (by first | omega | (simp <;> omega)) ?_)))) hr.b1).mono ?_; rintro e w1 ⟨rfl, hxb⟩; (obtain ⟨hxc, hxf⟩ := bcell hxb; have hxz := hxb.size; (try simp [Nat.succ_le_iff] at hxz); (try have hxy := Nat.lt_of_succ_lt hxz); (try have hxy2 := Nat.lt_of_succ_lt hxy); (try have hxy3 := Nat.lt_of_succ_lt hxy2); (try have hxy4 := Nat.lt_of_succ_lt hxy3); have hxB : Below w.heap.size w w1 := (by (repeat' first | exact Below.refl _ _ | (with_reducible assumption) | (with_reducible refine bAlloc (by first | omega | (simp <;> omega)) ?_) | (with_reducible refine bSet (by first | omega | (simp <;> omega)) ?_) | (with_reducible refine bDrew ?_) | (with_reducible refine bDrewN ?_) | (with_reducible refine bTrans (by with_reducible assumption) (by first | omega | (simp <;> omega)) ?_))); have hxk := below_all hxB; (try have hxl0 : w.heap.size < w1.heap.size := (by omega)); (try have hxl1 : w.heap.size + 1 < w1.heap.size := (by omega)); (try have hxl2 : w.heap.size + 2 < w1.heap.size := (by omega)))) | (go_at_call 42; refine (refRisesW _ _ _ _ _ _ (hr.r2.next (by (repeat' first | exact Below.refl _ _ | (with_reducible assumption) | (with_reducible refine bAlloc (by first | omega | (simp <;> omega)) ?_) | (with_reducible refine bSet (by first | omega | (simp <;> omega)) ?_) | (with_reducible refine bDrew ?_) | (with_reducible refine bDrewN ?_) | (with_reducible refine bTrans (by with_reducible assumption) (by first | omega | (simp <;> omega)) ?_)))) hr.b2).mono ?_; rintro e w1 ⟨rfl, hxb⟩; (obtain ⟨hxc, hxf⟩ := bcell hxb; have hxz := hxb.size; (try simp [Nat.succ_le_iff] at hxz); (try have hxy := Nat.lt_of_succ_lt hxz); (try have hxy2 := Nat.lt_of_succ_lt hxy); (try have hxy3 := Nat.lt_of_succ_lt hxy2); (try have hxy4 := Nat.lt_of_succ_lt hxy3); have hxB : Below w.heap.size w w1 := (by (repeat' first | exact Below.refl _ _ | (with_reducible assumption) | (with_reducible refine bAlloc (by first | omega | (simp <;> omega)) ?_) | (with_reducible refine bSet (by first | omega | (simp <;> omega)) ?_) | (with_reducible refine bDrew ?_) | (with_reducible refine bDrewN ?_) | (with_reducible refine bTrans (by with_reducible assumption) (by first | omega | (simp <;> omega)) ?_))); have hxk := below_all hxB; (try have hxl0 : w.heap.size < w1.heap.size := (by omega)); (try have hxl1 : w.heap.size + 1 < w1.heap.size := (by omega)); (try have hxl2 : w.heap.size + 2 < w1.heap.size := (by omega)))))
  all_goals (go_ret; go_light; refine ⟨ret_bool ?_, by (repeat' first | exact Below.refl _ _ | (with_reducible assumption) | (with_reducible refine bAlloc (by first | omega | (simp <;> omega)) ?_) | (with_reducible refine bSet (by first | omega | (simp <;> omega)) ?_) | (with_reducible refine bDrew ?_) | (with_reducible refine bDrewN ?_) | (with_reducible refine bTrans (by with_reducible assumption) (by first | omega | (simp <;> omega)) ?_))⟩; unfold mayB; simp_all)
def nilV : Cv := ⟨none, 0, 0, none, 0, 0⟩
def ownV (x : Cv) (c : Cal) : Cv := if mayB c then x else nilV
def ownC (c : Cal) : Cal := if mayB c then c else ⟨[], []⟩
theorem Ri_nil (w : World) : Ri w none 0 [] := ⟨rfl, fun h => absurd h (by omega)⟩
theorem Rc.own {w : World} {x : Cv} {c : Cal} (h : Rc w x c) : Rc w (ownV x c) (ownC c) := by
  unfold ownV ownC
  cases mayB c with
  | true => exact h
  | false => exact ⟨Ri_nil w, Ri_nil w, by show 0 < _; omega, by show 0 < _; omega⟩
theorem own_may (c : Cal) : mayB (ownC c) = true := by
  unfold ownC
  cases h : mayB c with
  | true => exact h
  | false => rfl
theorem ownW (x : Cv) (c : Cal) (w : World) (hr : Rc w x c) :
    Calls Tryd.prog 44 #[x.v] w fun e w' => e = .returned (ownV x c).v ∧ Below w.heap.size w w' := by
  have hM := fun w' (hb : Below w.heap.size w w') => mayW x c w' (hr.next hb)
  cases h : mayB c with
  | true =>
    have e1 : ownV x c = x := by unfold ownV; rw [h]; rfl
    rw [e1]
    simp only [h] at hM
    clear h e1
    go_enter Tryd.func44, Tryd.ntmps44
    go_wp2_with (go_at_call 21; refine (hM _ (by (repeat' first | exact Below.refl _ _ | (with_reducible assumption) | (with_reducible refine bAlloc (by first | omega | (simp <;> omega)) ?_) | (with_reducible refine bSet (by first | omega | (simp <;> omega)) ?_) | (with_reducible refine bDrew ?_) | (with_reducible refine bDrewN ?_) | (with_reducible refine bTrans (by with_reducible assumption) (by first | omega | (simp <;> omega)) ?_)))).mono ?_; rintro e w1 ⟨rfl, hxb⟩; (obtain ⟨hxc, hxf⟩ := bcell hxb; have hxz := hxb.size; (try simp [Nat.succ_le_iff] at hxz); (try have hxy := Nat.lt_of_succ_lt hxz); (try have hxy2 := Nat.lt_of_succ_lt hxy); (try have hxy3 := Nat.lt_of_succ_lt hxy2); (try have hxy4 := Nat.lt_of_succ_lt hxy3); have hxB : Below w.heap.size w w1 := (by (repeat' first | exact Below.refl _ _ | (with_reducible assumption) | (with_reducible refine bAlloc (by first | omega | (simp <;> omega)) ?_) | (with_reducible refine bSet (by first | omega | (simp <;> omega)) ?_) | (with_reducible refine bDrew ?_) | (with_reducible refine bDrewN ?_) | (with_reducible refine bTrans (by with_reducible assumption) (by first | omega | (simp <;> omega)) ?_))); have hxk := below_all hxB; (try have hxl0 : w.heap.size < w1.heap.size := (by omega)); (try have hxl1 : w.heap.size + 1 < w1.heap.size := (by omega)); (try have hxl2 : w.heap.size + 2 < w1.heap.size := (by omega))))
    have z0 : w1.cell? ⟨w.heap.size + 1, 0, none⟩ = some (.slice none 0 0) := by rw [hxc _ _ (by simp)]; simp [go_sem]
    have z1 : w1.cell? ⟨w.heap.size + 1, 1, none⟩ = some (.slice none 0 0) := by rw [hxc _ _ (by simp)]; simp [go_sem]
    refine bodyPost_ret (v := x.v) (by simp [results, Tryd.results44, go_sem, z0, z1, nilV]) rfl ⟨rfl, by (repeat' first | exact Below.refl _ _ | (with_reducible assumption) | (with_reducible refine bAlloc (by first | omega | (simp <;> omega)) ?_) | (with_reducible refine bSet (by first | omega | (simp <;> omega)) ?_) | (with_reducible refine bDrew ?_) | (with_reducible refine bDrewN ?_) | (with_reducible refine bTrans (by with_reducible assumption) (by first | omega | (simp <;> omega)) ?_))⟩
  | false =>
    have e1 : ownV x c = nilV := by unfold ownV; rw [h]; rfl
    rw [e1]
    simp only [h] at hM
    clear h e1
    go_enter Tryd.func44, Tryd.ntmps44
    go_wp2_with (go_at_call 21; refine (hM _ (by (repeat' first | exact Below.refl _ _ | (with_reducible assumption) | (with_reducible refine bAlloc (by first | omega | (simp <;> omega)) ?_) | (with_reducible refine bSet (by first | omega | (simp <;> omega)) ?_) | (with_reducible refine bDrew ?_) | (with_reducible refine bDrewN ?_) | (with_reducible refine bTrans (by with_reducible assumption) (by first | omega | (simp <;> omega)) ?_)))).mono ?_; rintro e w1 ⟨rfl, hxb⟩; (obtain ⟨hxc, hxf⟩ := bcell hxb; have hxz := hxb.size; (try simp [Nat.succ_le_iff] at hxz); (try have hxy := Nat.lt_of_succ_lt hxz); (try have hxy2 := Nat.lt_of_succ_lt hxy); (try have hxy3 := Nat.lt_of_succ_lt hxy2); (try have hxy4 := Nat.lt_of_succ_lt hxy3); have hxB : Below w.heap.size w w1 := (by (repeat' first | exact Below.refl _ _ | (with_reducible assumption) | (with_reducible refine bAlloc (by first | omega | (simp <;> omega)) ?_) | (with_reducible refine bSet (by first | omega | (simp <;> omega)) ?_) | (with_reducible refine bDrew ?_) | (with_reducible refine bDrewN ?_) | (with_reducible refine bTrans (by with_reducible assumption) (by first | omega | (simp <;> omega)) ?_))); have hxk := below_all hxB; (try have hxl0 : w.heap.size < w1.heap.size := (by omega)); (try have hxl1 : w.heap.size + 1 < w1.heap.size := (by omega)); (try have hxl2 : w.heap.size + 2 < w1.heap.size := (by omega))))
    have z0 : w1.cell? ⟨w.heap.size + 1, 0, none⟩ = some (.slice none 0 0) := by rw [hxc _ _ (by simp)]; simp [go_sem]
    have z1 : w1.cell? ⟨w.heap.size + 1, 1, none⟩ = some (.slice none 0 0) := by rw [hxc _ _ (by simp)]; simp [go_sem]
    refine bodyPost_ret (v := nilV.v) (by simp [results, Tryd.results44, go_sem, z0, z1, nilV]) rfl ⟨rfl, by (repeat' first | exact Below.refl _ _ | (with_reducible assumption) | (with_reducible refine bAlloc (by first | omega | (simp <;> omega)) ?_) | (with_reducible refine bSet (by first | omega | (simp <;> omega)) ?_) | (with_reducible refine bDrew ?_) | (with_reducible refine bDrewN ?_) | (with_reducible refine bTrans (by with_reducible assumption) (by first | omega | (simp <;> omega)) ?_))⟩
end Go.Proofs.YtpgldnjejnigiaaDoor
