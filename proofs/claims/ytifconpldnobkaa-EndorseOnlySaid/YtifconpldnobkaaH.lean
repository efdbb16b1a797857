/-
  The walks: Check, Holder, Blank, May.
-/
import Derived.Test.YtifconpldnobkaaG
namespace Go.Proofs.Ytifconpldnobkaa
open Go.RowKit

def blankB (l : List En) : Bool := if h : 0 < l.length then l[l.length - 1].kind == 1 else false
def mayR (first who : ByteArray) (l : List En) : Bool :=
  (checkR first l).2.2 == 0 && nameB who && !(if h : 0 < l.length then l[l.length - 1].kind == 2 else false) && ((checkR first l).1.toList.isEmpty || (checkR first l).1.toList == who.toList)

set_option maxHeartbeats 1000000 in
theorem check11 (first : ByteArray) (A : Option Addr) (c : Nat) (l : List En) (w : World) (hs : first.size ≤ maxLen) (hr : RowE w w.heap.size A l) :
    Calls Try.prog 11 #[.string first, .slice A l.length c] w fun e w' => e = .returned (resV (check first l)) ∧ Below w.heap.size w w' := by
  go_enter Try.func11, Try.ntmps11
  go_wp2_with (go_at_call 18; refine (follow18 first A c l _ hs hr).mono ?_; rintro e w1 ⟨rfl, hxb⟩; (obtain ⟨hxc, hxf⟩ := bcell hxb; have hxz := hxb.size; (try simp [Nat.succ_le_iff] at hxz); (try have hxy := Nat.lt_of_succ_lt hxz); (try have hxy2 := Nat.lt_of_succ_lt hxy); (try have hxy3 := Nat.lt_of_succ_lt hxy2); (try have hxy4 := Nat.lt_of_succ_lt hxy3); have hxB : Below w.heap.size w w1 := (by (repeat' first | exact Below.refl _ _ | (with_reducible assumption) | (with_reducible refine bAlloc (by first | omega | (simp <;> omega)) ?_) | (with_reducible refine bSet (by first | omega | (simp <;> omega)) ?_) | (with_reducible refine bDrew ?_) | (with_reducible refine bDrewN ?_) | (with_reducible refine bTrans (by with_reducible assumption) (by first | omega | (simp <;> omega)) ?_))); have hxk := below_all hxB; (try have hxl0 : w.heap.size < w1.heap.size := (by omega)); (try have hxl1 : w.heap.size + 1 < w1.heap.size := (by omega)); (try have hxl2 : w.heap.size + 2 < w1.heap.size := (by omega))))
  go_ret3
  exact ⟨rfl, by (repeat' first | exact Below.refl _ _ | (with_reducible assumption) | (with_reducible refine bAlloc (by first | omega | (simp <;> omega)) ?_) | (with_reducible refine bSet (by first | omega | (simp <;> omega)) ?_) | (with_reducible refine bDrew ?_) | (with_reducible refine bDrewN ?_) | (with_reducible refine bTrans (by with_reducible assumption) (by first | omega | (simp <;> omega)) ?_))⟩
set_option maxHeartbeats 1000000 in
theorem holder16 (first : ByteArray) (A : Option Addr) (c : Nat) (l : List En) (w : World) (hs : first.size ≤ maxLen) (hr : RowE w w.heap.size A l) :
    Calls Try.prog 16 #[.string first, .slice A l.length c] w fun e w' => e = .returned (.string (check first l).1) ∧ Below w.heap.size w w' := by
  go_enter Try.func16, Try.ntmps16
  go_wp2_with (go_at_call 11; refine (check11 first A c l _ hs hr).mono ?_; rintro e w1 ⟨rfl, hxb⟩; (obtain ⟨hxc, hxf⟩ := bcell hxb; have hxz := hxb.size; (try simp [Nat.succ_le_iff] at hxz); (try have hxy := Nat.lt_of_succ_lt hxz); (try have hxy2 := Nat.lt_of_succ_lt hxy); (try have hxy3 := Nat.lt_of_succ_lt hxy2); (try have hxy4 := Nat.lt_of_succ_lt hxy3); have hxB : Below w.heap.size w w1 := (by (repeat' first | exact Below.refl _ _ | (with_reducible assumption) | (with_reducible refine bAlloc (by first | omega | (simp <;> omega)) ?_) | (with_reducible refine bSet (by first | omega | (simp <;> omega)) ?_) | (with_reducible refine bDrew ?_) | (with_reducible refine bDrewN ?_) | (with_reducible refine bTrans (by with_reducible assumption) (by first | omega | (simp <;> omega)) ?_))); have hxk := below_all hxB; (try have hxl0 : w.heap.size < w1.heap.size := (by omega)); (try have hxl1 : w.heap.size + 1 < w1.heap.size := (by omega)); (try have hxl2 : w.heap.size + 2 < w1.heap.size := (by omega))))
  go_ret
  exact ⟨rfl, by (repeat' first | exact Below.refl _ _ | (with_reducible assumption) | (with_reducible refine bAlloc (by first | omega | (simp <;> omega)) ?_) | (with_reducible refine bSet (by first | omega | (simp <;> omega)) ?_) | (with_reducible refine bDrew ?_) | (with_reducible refine bDrewN ?_) | (with_reducible refine bTrans (by with_reducible assumption) (by first | omega | (simp <;> omega)) ?_))⟩
set_option maxHeartbeats 1000000 in
theorem blank17 (A : Option Addr) (c : Nat) (l : List En) (w : World) (hr : RowE w w.heap.size A l) :
    Calls Try.prog 17 #[.slice A l.length c] w fun e w' => e = .returned (.bool (blankB l)) ∧ w = w' := by
  have hl := hr.1
  by_cases h0 : l.length = 0
  · obtain rfl : l = [] := List.length_eq_zero_iff.1 h0
    have hx := Lib.hid (show blankB [] = false by simp [blankB])
    go_enter Try.func17, Try.ntmps17
    go_wp2
    all_goals (go_ret; go_light; exact ⟨ret_bool hx.out.symm, rfl⟩)
  · have hp : 0 < l.length := by omega
    have hd : decide (0 < (l.length : Int)) = true := by simp; omega
    have hx := Lib.hid (show blankB l = (l[l.length - 1].kind == 1) by simp [blankB, hp])
    obtain ⟨s1, s2, ad, rfl, hbk, c0, c1, c2, c3⟩ := hr.at_ (l.length - 1) (by omega)
    go_enter Try.func17, Try.ntmps17
    go_wp2
    all_goals (go_ret; go_light; exact ⟨ret_bool hx.out.symm, rfl⟩)
set_option maxHeartbeats 1000000 in
theorem may12 (first who : ByteArray) (A : Option Addr) (c : Nat) (l : List En) (w : World) (hs : first.size ≤ maxLen) (hs' : who.size ≤ maxLen) (hr : RowE w w.heap.size A l) :
    Calls Try.prog 12 #[.string first, .string who, .slice A l.length c] w fun e w' => e = .returned (.bool (may first who l)) ∧ Below w.heap.size w w' := by
  have hx := Lib.hid (show may first who l = _ by unfold may; rfl)
  go_enter Try.func12, Try.ntmps12
  go_wp2_with (first | (go_at_call 18; refine (follow18 first A c l _ hs hr).mono ?_; rintro e w1 ⟨rfl, hxb⟩; (obtain ⟨hxc, hxf⟩ := bcell hxb; have hxz := hxb.size; (try simp [Nat.succ_le_iff] at hxz); (try have hxy := Nat.lt_of_succ_lt hxz); (try have hxy2 := Nat.lt_of_succ_lt hxy); (try have hxy3 := Nat.lt_of_succ_lt hxy2); (try have hxy4 := Nat.lt_of_succ_lt hxy3); have hxB : Below w.heap.size w w1 := (by (repeat' first | exact Below.refl _ _ | (with_reducible assumption) | (with_reducible refine bAlloc (by first | omega | (simp <;> omega)) ?_) | (with_reducible refine bSet (by first | omega | (simp <;> omega)) ?_) | (with_reducible refine bDrew ?_) | (with_reducible refine bDrewN ?_) | (with_reducible refine bTrans (by with_reducible assumption) (by first | omega | (simp <;> omega)) ?_))); have hxk := below_all hxB; (try have hxl0 : w.heap.size < w1.heap.size := (by omega)); (try have hxl1 : w.heap.size + 1 < w1.heap.size := (by omega)); (try have hxl2 : w.heap.size + 2 < w1.heap.size := (by omega)))) | (go_at_call 19; refine (name19 _ _ hs').mono ?_; rintro e w' ⟨rfl, rfl⟩))
  all_goals (go_ret; go_light; refine ⟨ret_bool ?_, by (repeat' first | exact Below.refl _ _ | (with_reducible assumption) | (with_reducible refine bAlloc (by first | omega | (simp <;> omega)) ?_) | (with_reducible refine bSet (by first | omega | (simp <;> omega)) ?_) | (with_reducible refine bDrew ?_) | (with_reducible refine bDrewN ?_) | (with_reducible refine bTrans (by with_reducible assumption) (by first | omega | (simp <;> omega)) ?_))⟩; have a := hx.out; simp_all)
set_option maxHeartbeats 1000000 in
theorem may13 (first who : ByteArray) (A : Option Addr) (c : Nat) (l : List En) (w : World) (hs : first.size ≤ maxLen) (hs' : who.size ≤ maxLen) (hr : RowE w w.heap.size A l) :
    Calls Try.prog 13 #[.string first, .string who, .slice A l.length c] w fun e w' => e = .returned (.bool (mayR first who l)) ∧ Below w.heap.size w w' := by
  have hl := hr.1
  have hx := Lib.hid (show mayR first who l = _ by unfold mayR; rfl)
  by_cases h0 : l.length = 0
  · obtain rfl : l = [] := List.length_eq_zero_iff.1 h0
    clear h0
    go_enter Try.func13, Try.ntmps13
    go_wp2_with (first | (go_at_call 15; refine (check15 first A c [] _ hs hr).mono ?_; rintro e w1 ⟨rfl, hxb⟩; (obtain ⟨hxc, hxf⟩ := bcell hxb; have hxz := hxb.size; (try simp [Nat.succ_le_iff] at hxz); (try have hxy := Nat.lt_of_succ_lt hxz); (try have hxy2 := Nat.lt_of_succ_lt hxy); (try have hxy3 := Nat.lt_of_succ_lt hxy2); (try have hxy4 := Nat.lt_of_succ_lt hxy3); have hxB : Below w.heap.size w w1 := (by (repeat' first | exact Below.refl _ _ | (with_reducible assumption) | (with_reducible refine bAlloc (by first | omega | (simp <;> omega)) ?_) | (with_reducible refine bSet (by first | omega | (simp <;> omega)) ?_) | (with_reducible refine bDrew ?_) | (with_reducible refine bDrewN ?_) | (with_reducible refine bTrans (by with_reducible assumption) (by first | omega | (simp <;> omega)) ?_))); have hxk := below_all hxB; (try have hxl0 : w.heap.size < w1.heap.size := (by omega)); (try have hxl1 : w.heap.size + 1 < w1.heap.size := (by omega)); (try have hxl2 : w.heap.size + 2 < w1.heap.size := (by omega)))) | (go_at_call 14; refine (name14 _ _ hs').mono ?_; rintro e w' ⟨rfl, rfl⟩))
    all_goals (go_ret; go_light; refine ⟨ret_bool ?_, by (repeat' first | exact Below.refl _ _ | (with_reducible assumption) | (with_reducible refine bAlloc (by first | omega | (simp <;> omega)) ?_) | (with_reducible refine bSet (by first | omega | (simp <;> omega)) ?_) | (with_reducible refine bDrew ?_) | (with_reducible refine bDrewN ?_) | (with_reducible refine bTrans (by with_reducible assumption) (by first | omega | (simp <;> omega)) ?_))⟩; have a := hx.out; simp_all)
  · have hp : 0 < l.length := by omega
    have hd : decide (0 < (l.length : Int)) = true := by simp; omega
    obtain ⟨s1, s2, ad, rfl, hbk, c0, c1, c2, c3⟩ := hr.at_ (l.length - 1) (by omega)
    go_enter Try.func13, Try.ntmps13
    go_wp2_with (first | (go_at_call 15; refine (check15 first _ c l _ hs hr).mono ?_; rintro e w1 ⟨rfl, hxb⟩; (obtain ⟨hxc, hxf⟩ := bcell hxb; have hxz := hxb.size; (try simp [Nat.succ_le_iff] at hxz); (try have hxy := Nat.lt_of_succ_lt hxz); (try have hxy2 := Nat.lt_of_succ_lt hxy); (try have hxy3 := Nat.lt_of_succ_lt hxy2); (try have hxy4 := Nat.lt_of_succ_lt hxy3); have hxB : Below w.heap.size w w1 := (by (repeat' first | exact Below.refl _ _ | (with_reducible assumption) | (with_reducible refine bAlloc (by first | omega | (simp <;> omega)) ?_) | (with_reducible refine bSet (by first | omega | (simp <;> omega)) ?_) | (with_reducible refine bDrew ?_) | (with_reducible refine bDrewN ?_) | (with_reducible refine bTrans (by with_reducible assumption) (by first | omega | (simp <;> omega)) ?_))); have hxk := below_all hxB; (try have hxl0 : w.heap.size < w1.heap.size := (by omega)); (try have hxl1 : w.heap.size + 1 < w1.heap.size := (by omega)); (try have hxl2 : w.heap.size + 2 < w1.heap.size := (by omega)))) | (go_at_call 14; refine (name14 _ _ hs').mono ?_; rintro e w' ⟨rfl, rfl⟩))
    all_goals (go_ret; go_light; refine ⟨ret_bool ?_, by (repeat' first | exact Below.refl _ _ | (with_reducible assumption) | (with_reducible refine bAlloc (by first | omega | (simp <;> omega)) ?_) | (with_reducible refine bSet (by first | omega | (simp <;> omega)) ?_) | (with_reducible refine bDrew ?_) | (with_reducible refine bDrewN ?_) | (with_reducible refine bTrans (by with_reducible assumption) (by first | omega | (simp <;> omega)) ?_))⟩; have a := hx.out; simp_all <;> grind)
end Go.Proofs.Ytifconpldnobkaa
