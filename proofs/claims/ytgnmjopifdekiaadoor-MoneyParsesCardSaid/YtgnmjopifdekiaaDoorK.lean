/-
  Money: Sum, Less, and the reference's Sum.
-/
import Derived.Test.YtgnmjopifdekiaaDoorB
import Derived.Test.YtgnmjopifdekiaaDoorA
namespace Go.Proofs.YtgnmjopifdekiaaDoor
set_option linter.unusedVariables false
set_option linter.unusedSimpArgs false
open Go.RowKit

def alikeB (c : ByteArray) (a : Int) (d : ByteArray) (b : Int) : Bool := mayM c a && mayM d b && decide (c = d)
def sumM (c : ByteArray) (a : Int) (d : ByteArray) (b : Int) : Value := if alikeB c a d b && inB (a + b) then .tuple #[mv c (a + b), .bool true] else .tuple #[mv ⟨#[]⟩ 0, .bool false]
set_option maxHeartbeats 2000000 in
theorem alikeW (c : ByteArray) (a : Int) (d : ByteArray) (b : Int) (w : World) :
    Calls Tryd.prog 43 #[mv c a, mv d b] w fun e w' => e = .returned (.bool (alikeB c a d b)) ∧ Below w.heap.size w w' := by
  have h1 := fun w => MayW c a w
  have h2 := fun w => MayW d b w
  have hs := str_eqB c d
  unfold alikeB
  cases hm : mayM c a <;> cases hn : mayM d b
  all_goals
    simp only [hm] at h1
    simp only [hn] at h2
    clear hm hn
    go_enter Tryd.func43, Tryd.ntmps43
    go_wp2_with (first | (go_at_call 22; (with_reducible refine (h1 _).mono ?_); rintro e w1 ⟨rfl, hxb⟩; (obtain ⟨hxc, hxf⟩ := bcell hxb; have hxz := hxb.size; (try simp [Nat.succ_le_iff] at hxz); (try have hxy := Nat.lt_of_succ_lt hxz); (try have hxy2 := Nat.lt_of_succ_lt hxy); (try have hxy3 := Nat.lt_of_succ_lt hxy2); (try have hxy4 := Nat.lt_of_succ_lt hxy3); have hxB : Below w.heap.size w w1 := (by (repeat' first | exact Below.refl _ _ | (with_reducible assumption) | (with_reducible refine bAlloc (by first | omega | (simp <;> omega)) ?_) | (with_reducible refine bSet (by first | omega | (simp <;> omega)) ?_) | (with_reducible refine bDrew ?_) | (with_reducible refine bDrewN ?_) | (with_reducible refine bTrans (by with_reducible assumption) (by first | omega | (simp <;> omega)) ?_))); have hxk := below_all hxB; (try have hxl0 : w.heap.size < w1.heap.size := (by omega)); (try have hxl1 : w.heap.size + 1 < w1.heap.size := (by omega)); (try have hxl2 : w.heap.size + 2 < w1.heap.size := (by omega)))) | (go_at_call 22; (with_reducible refine (h2 _).mono ?_); rintro e w1 ⟨rfl, hxb⟩; (obtain ⟨hxc, hxf⟩ := bcell hxb; have hxz := hxb.size; (try simp [Nat.succ_le_iff] at hxz); (try have hxy := Nat.lt_of_succ_lt hxz); (try have hxy2 := Nat.lt_of_succ_lt hxy); (try have hxy3 := Nat.lt_of_succ_lt hxy2); (try have hxy4 := Nat.lt_of_succ_lt hxy3); have hxB : Below w.heap.size w w1 := (by (repeat' first | exact Below.refl _ _ | (with_reducible assumption) | (with_reducible refine bAlloc (by first | omega | (simp <;> omega)) ?_) | (with_reducible refine bSet (by first | omega | (simp <;> omega)) ?_) | (with_reducible refine bDrew ?_) | (with_reducible refine bDrewN ?_) | (with_reducible refine bTrans (by with_reducible assumption) (by first | omega | (simp <;> omega)) ?_))); have hxk := below_all hxB; (try have hxl0 : w.heap.size < w1.heap.size := (by omega)); (try have hxl1 : w.heap.size + 1 < w1.heap.size := (by omega)); (try have hxl2 : w.heap.size + 2 < w1.heap.size := (by omega)))))
    all_goals (go_ret; refine ⟨ret_bool ?_, by (repeat' first | exact Below.refl _ _ | (with_reducible assumption) | (with_reducible refine bAlloc (by first | omega | (simp <;> omega)) ?_) | (with_reducible refine bSet (by first | omega | (simp <;> omega)) ?_) | (with_reducible refine bDrew ?_) | (with_reducible refine bDrewN ?_) | (with_reducible refine bTrans (by with_reducible assumption) (by first | omega | (simp <;> omega)) ?_))⟩; simp_all)
/-- the world in which the three boxes hold these -/
structure B3 (w W : World) (x0 x1 y0 y1 : Value) : Prop where
  hB : Below w.heap.size w W
  hz : w.heap.size + 2 < W.heap.size
  c0 : W.cell? ⟨w.heap.size, 0, none⟩ = some x0
  c1 : W.cell? ⟨w.heap.size, 1, none⟩ = some x1
  n0 : W.cell? ⟨w.heap.size + 1, 0, none⟩ = some y0
  n1 : W.cell? ⟨w.heap.size + 1, 1, none⟩ = some y1
  r0 : W.cell? ⟨w.heap.size + 1 + 1, 0, none⟩ = some (.string ⟨#[]⟩)
  r1 : W.cell? ⟨w.heap.size + 1 + 1, 1, none⟩ = some (.int .i64 0)
  f0 : W.frozen? ⟨w.heap.size + 1 + 1, 0, none⟩ = false
  f1 : W.frozen? ⟨w.heap.size + 1 + 1, 1, none⟩ = false
theorem B3.next {w W W' : World} {x0 x1 y0 y1 : Value} (h : B3 w W x0 x1 y0 y1) (hb : Below W.heap.size W W') : B3 w W' x0 x1 y0 y1 := by
  obtain ⟨hB, hz, c0, c1, n0, n1, r0, r1, f0, f1⟩ := h
  have hfz := (bcell hb).2
  have := hb.size
  exact ⟨hB.trans (hb.mono hB.size), by omega, (hb.cell (p := ⟨w.heap.size, 0, none⟩) (by show w.heap.size < _; omega)).trans c0, (hb.cell (p := ⟨w.heap.size, 1, none⟩) (by show w.heap.size < _; omega)).trans c1,
    (hb.cell (p := ⟨w.heap.size + 1, 0, none⟩) (by show w.heap.size + 1 < _; omega)).trans n0, (hb.cell (p := ⟨w.heap.size + 1, 1, none⟩) (by show w.heap.size + 1 < _; omega)).trans n1,
    (hb.cell (p := ⟨w.heap.size + 1 + 1, 0, none⟩) (by show w.heap.size + 1 + 1 < _; omega)).trans r0, (hb.cell (p := ⟨w.heap.size + 1 + 1, 1, none⟩) (by show w.heap.size + 1 + 1 < _; omega)).trans r1, (hfz _ _ (by omega)).trans f0, (hfz _ _ (by omega)).trans f1⟩
theorem B3.new {w : World} {x0 x1 y0 y1 : Value} (t u v : TypeId) : B3 w (((w.alloc (.cells #[x0, x1] t)).alloc (.cells #[y0, y1] u)).alloc (.cells #[.string ⟨#[]⟩, .int .i64 0] v)) x0 x1 y0 y1 :=
  ⟨by (repeat' first | exact Below.refl _ _ | (with_reducible assumption) | (with_reducible refine bAlloc (by first | omega | (simp <;> omega)) ?_) | (with_reducible refine bSet (by first | omega | (simp <;> omega)) ?_) | (with_reducible refine bDrew ?_) | (with_reducible refine bDrewN ?_) | (with_reducible refine bTrans (by with_reducible assumption) (by first | omega | (simp <;> omega)) ?_)), by simp, by simp [go_sem], by simp [go_sem], by simp [go_sem], by simp [go_sem], by simp [go_sem], by simp [go_sem], by simp [go_sem], by simp [go_sem]⟩
theorem B3.out {w W : World} {x0 x1 y0 y1 : Value} (h : B3 w W x0 x1 y0 y1) (o : Obj) : B3 w (W.alloc o) x0 x1 y0 y1 := h.next (by (repeat' first | exact Below.refl _ _ | (with_reducible assumption) | (with_reducible refine bAlloc (by first | omega | (simp <;> omega)) ?_) | (with_reducible refine bSet (by first | omega | (simp <;> omega)) ?_) | (with_reducible refine bDrew ?_) | (with_reducible refine bDrewN ?_) | (with_reducible refine bTrans (by with_reducible assumption) (by first | omega | (simp <;> omega)) ?_)))
theorem sumM_no {c : ByteArray} {a : Int} {d : ByteArray} {b : Int} (h : (alikeB c a d b && inB (a + b)) = false) : sumM c a d b = .tuple #[mv ⟨#[]⟩ 0, .bool false] := by unfold sumM; rw [h]; rfl
theorem sumM_yes {c : ByteArray} {a : Int} {d : ByteArray} {b : Int} (h : (alikeB c a d b && inB (a + b)) = true) : sumM c a d b = .tuple #[mv c (a + b), .bool true] := by unfold sumM; rw [if_pos h]
set_option maxHeartbeats 2000000 in
set_option maxRecDepth 100000 in
theorem SumW (c : ByteArray) (a : Int) (d : ByteArray) (b : Int) (w : World) :
    Calls Tryd.prog 19 #[mv c a, mv d b] w fun e w' => e = .returned (sumM c a d b) ∧ Below w.heap.size w w' := by
  have h1 := fun w => alikeW c a d b w
  have hI := fun w => withinW (a + b) w
  cases hm : alikeB c a d b with
  | false =>
    have he := Lib.hid (show sumM c a d b = .tuple #[mv ⟨#[]⟩ 0, .bool false] by unfold sumM; simp [hm])
    simp only [hm] at h1
    clear hm
    go_enter Tryd.func19, Tryd.ntmps19
    go_wp2_with (first | (go_at_call 43; (with_reducible refine (h1 _).mono ?_); rintro e w1 ⟨rfl, hxb⟩; (have hWn : B3 w w1 (.string c) (.int .i64 a) (.string d) (.int .i64 b) := B3.next (by first | (with_reducible assumption) | exact B3.new _ _ _ | exact B3.out (by with_reducible assumption) _) hxb); obtain ⟨hxc, hxf⟩ := bcell hxb; clear hxb hxf; obtain ⟨hxB, hxl2, hxq0, hxq1, hxq2, hxq3, hxq4, hxq5, hxf0, hxf1⟩ := id hWn; (have hxl0 : w.heap.size < w1.heap.size := (by omega)); (have hxl1 : w.heap.size + 1 < w1.heap.size := (by omega))))
    (refine bodyPost_ret (v := .tuple #[mv ⟨#[]⟩ 0, .bool false]) (by simp [results, Tryd.results19, go_sem, hxq4, hxq5]) rfl ⟨by rw [he.out] <;> rfl, by (repeat' first | exact Below.refl _ _ | (with_reducible assumption) | (with_reducible refine bAlloc (by first | omega | (simp <;> omega)) ?_) | (with_reducible refine bSet (by first | omega | (simp <;> omega)) ?_) | (with_reducible refine bDrew ?_) | (with_reducible refine bDrewN ?_) | (with_reducible refine bTrans (by with_reducible assumption) (by first | omega | (simp <;> omega)) ?_))⟩)
  | true =>
    have hr : -1099511627776 ≤ a ∧ a ≤ 1099511627776 ∧ -1099511627776 ≤ b ∧ b ≤ 1099511627776 := by
      unfold alikeB at hm
      simp only [Bool.and_eq_true] at hm
      have x := mayM_iff.1 hm.1.1
      have y := mayM_iff.1 hm.1.2
      omega
    obtain ⟨a0, a1, b0, b1⟩ := hr
    simp only [hm] at h1
    cases hi : inB (a + b) with
    | false =>
      simp only [hi] at hI
      have he := Lib.hid (sumM_no (show (alikeB c a d b && inB (a + b)) = false by rw [hm, hi]; rfl))
      clear hm hi
      go_enter Tryd.func19, Tryd.ntmps19
      go_wp2_with (first | (go_at_call 43; (with_reducible refine (h1 _).mono ?_); rintro e w1 ⟨rfl, hxb⟩; (have hWn : B3 w w1 (.string c) (.int .i64 a) (.string d) (.int .i64 b) := B3.next (by first | (with_reducible assumption) | exact B3.new _ _ _ | exact B3.out (by with_reducible assumption) _) hxb); obtain ⟨hxc, hxf⟩ := bcell hxb; clear hxb hxf; obtain ⟨hxB, hxl2, hxq0, hxq1, hxq2, hxq3, hxq4, hxq5, hxf0, hxf1⟩ := id hWn; (have hxl0 : w.heap.size < w1.heap.size := (by omega)); (have hxl1 : w.heap.size + 1 < w1.heap.size := (by omega))) | (go_at_call 44; (with_reducible refine (hI _).mono ?_); rintro e w' ⟨rfl, rfl⟩))
      all_goals (refine bodyPost_ret (v := .tuple #[mv ⟨#[]⟩ 0, .bool false]) (by simp [results, Tryd.results19, go_sem, hxq4, hxq5]) rfl ⟨by rw [he.out] <;> rfl, by (repeat' first | exact Below.refl _ _ | (with_reducible assumption) | (with_reducible refine bAlloc (by first | omega | (simp <;> omega)) ?_) | (with_reducible refine bSet (by first | omega | (simp <;> omega)) ?_) | (with_reducible refine bDrew ?_) | (with_reducible refine bDrewN ?_) | (with_reducible refine bTrans (by with_reducible assumption) (by first | omega | (simp <;> omega)) ?_))⟩)
    | true =>
      simp only [hi] at hI
      have he := Lib.hid (sumM_yes (show (alikeB c a d b && inB (a + b)) = true by rw [hm, hi]; rfl))
      clear hm hi
      go_enter Tryd.func19, Tryd.ntmps19
      go_wp2_with (first | (go_at_call 43; (with_reducible refine (h1 _).mono ?_); rintro e w1 ⟨rfl, hxb⟩; (have hWn : B3 w w1 (.string c) (.int .i64 a) (.string d) (.int .i64 b) := B3.next (by first | (with_reducible assumption) | exact B3.new _ _ _ | exact B3.out (by with_reducible assumption) _) hxb); obtain ⟨hxc, hxf⟩ := bcell hxb; clear hxb hxf; obtain ⟨hxB, hxl2, hxq0, hxq1, hxq2, hxq3, hxq4, hxq5, hxf0, hxf1⟩ := id hWn; (have hxl0 : w.heap.size < w1.heap.size := (by omega)); (have hxl1 : w.heap.size + 1 < w1.heap.size := (by omega))) | (go_at_call 44; (with_reducible refine (hI _).mono ?_); rintro e w' ⟨rfl, rfl⟩))
      all_goals (refine bodyPost_ret (v := .tuple #[mv c (a + b), .bool true]) (by simp [results, Tryd.results19, go_sem, hxq4, hxq5]) rfl ⟨by rw [he.out] <;> rfl, by (repeat' first | exact Below.refl _ _ | (with_reducible assumption) | (with_reducible refine bAlloc (by first | omega | (simp <;> omega)) ?_) | (with_reducible refine bSet (by first | omega | (simp <;> omega)) ?_) | (with_reducible refine bDrew ?_) | (with_reducible refine bDrewN ?_) | (with_reducible refine bTrans (by with_reducible assumption) (by first | omega | (simp <;> omega)) ?_))⟩)
def lessM (c : ByteArray) (a : Int) (d : ByteArray) (b : Int) : Value := if alikeB c a d b then .tuple #[.bool (decide (a < b)), .bool true] else .tuple #[.bool false, .bool false]
theorem LessW (c : ByteArray) (a : Int) (d : ByteArray) (b : Int) (w : World) :
    Calls Tryd.prog 21 #[mv c a, mv d b] w fun e w' => e = .returned (lessM c a d b) ∧ Below w.heap.size w w' := by
  have h1 := fun w => alikeW c a d b w
  have he := Lib.hid (show lessM c a d b = if alikeB c a d b then .tuple #[.bool (decide (a < b)), .bool true] else .tuple #[.bool false, .bool false] from rfl)
  cases hm : alikeB c a d b
  all_goals
    rw [hm] at he
    simp only [hm] at h1
    clear hm
    go_enter Tryd.func21, Tryd.ntmps21
    go_wp2_with (first | (go_at_call 43; (with_reducible refine (h1 _).mono ?_); rintro e w1 ⟨rfl, hxb⟩; (obtain ⟨hxc, hxf⟩ := bcell hxb; have hxz := hxb.size; (try simp [Nat.succ_le_iff] at hxz); (try have hxy := Nat.lt_of_succ_lt hxz); (try have hxy2 := Nat.lt_of_succ_lt hxy); (try have hxy3 := Nat.lt_of_succ_lt hxy2); (try have hxy4 := Nat.lt_of_succ_lt hxy3); have hxB : Below w.heap.size w w1 := (by (repeat' first | exact Below.refl _ _ | (with_reducible assumption) | (with_reducible refine bAlloc (by first | omega | (simp <;> omega)) ?_) | (with_reducible refine bSet (by first | omega | (simp <;> omega)) ?_) | (with_reducible refine bDrew ?_) | (with_reducible refine bDrewN ?_) | (with_reducible refine bTrans (by with_reducible assumption) (by first | omega | (simp <;> omega)) ?_))); have hxk := below_all hxB; (try have hxl0 : w.heap.size < w1.heap.size := (by omega)); (try have hxl1 : w.heap.size + 1 < w1.heap.size := (by omega)); (try have hxl2 : w.heap.size + 2 < w1.heap.size := (by omega)))))
    go_ret2
    exact ⟨by rw [he.out] <;> rfl, by (repeat' first | exact Below.refl _ _ | (with_reducible assumption) | (with_reducible refine bAlloc (by first | omega | (simp <;> omega)) ?_) | (with_reducible refine bSet (by first | omega | (simp <;> omega)) ?_) | (with_reducible refine bDrew ?_) | (with_reducible refine bDrewN ?_) | (with_reducible refine bTrans (by with_reducible assumption) (by first | omega | (simp <;> omega)) ?_))⟩
set_option maxHeartbeats 2000000 in
set_option maxRecDepth 100000 in
theorem refSumW (c : ByteArray) (a : Int) (d : ByteArray) (b : Int) (w : World) :
    Calls Tryd.prog 20 #[mv c a, mv d b] w fun e w' => e = .returned (sumM c a d b) ∧ Below w.heap.size w w' := by
  have h1 := fun w => refMayW c a w
  have h2 := fun w => refMayW d b w
  have h3 := fun w => refMayW c (a + b) w
  have hs := str_eqB c d
  by_cases hm : mayM c a = true ∧ mayM d b = true
  · obtain ⟨hm, hn⟩ := hm
    have x := (mayM_iff.1 hm)
    have y := (mayM_iff.1 hn).2
    by_cases hcd : c = d
    · have hal : alikeB c a d b = true := by unfold alikeB; rw [hm, hn]; simp [hcd]
      have hmm : mayM c (a + b) = inB (a + b) := by unfold mayM; rw [x.1, Bool.true_and]
      rw [hmm] at h3
      obtain ⟨-, a0, a1⟩ := x
      obtain ⟨b0, b1⟩ := y
      rw [show decide (c = d) = true from decide_eq_true hcd] at hs
      replace hcd := Lib.hid hcd
      simp only [hm] at h1
      simp only [hn] at h2
      cases hi : inB (a + b) with
      | false =>
        simp only [hi] at h3
        have he := Lib.hid (sumM_no (show (alikeB c a d b && inB (a + b)) = false by rw [hal, hi]; rfl))
        clear hm hi hal hn hmm
        go_enter Tryd.func20, Tryd.ntmps20
        go_wp2_with (first | (go_at_call 14; (with_reducible refine (h1 _).mono ?_); rintro e w1 ⟨rfl, hxb⟩; (have hWn : B3 w w1 (.string c) (.int .i64 a) (.string d) (.int .i64 b) := B3.next (by first | (with_reducible assumption) | exact B3.new _ _ _ | exact B3.out (by with_reducible assumption) _) hxb); obtain ⟨hxc, hxf⟩ := bcell hxb; clear hxb hxf; obtain ⟨hxB, hxl2, hxq0, hxq1, hxq2, hxq3, hxq4, hxq5, hxf0, hxf1⟩ := id hWn; (have hxl0 : w.heap.size < w1.heap.size := (by omega)); (have hxl1 : w.heap.size + 1 < w1.heap.size := (by omega))) | (go_at_call 14; (with_reducible refine (h2 _).mono ?_); rintro e w1 ⟨rfl, hxb⟩; (have hWn : B3 w w1 (.string c) (.int .i64 a) (.string d) (.int .i64 b) := B3.next (by first | (with_reducible assumption) | exact B3.new _ _ _ | exact B3.out (by with_reducible assumption) _) hxb); obtain ⟨hxc, hxf⟩ := bcell hxb; clear hxb hxf; obtain ⟨hxB, hxl2, hxq0, hxq1, hxq2, hxq3, hxq4, hxq5, hxf0, hxf1⟩ := id hWn; (have hxl0 : w.heap.size < w1.heap.size := (by omega)); (have hxl1 : w.heap.size + 1 < w1.heap.size := (by omega))) | (go_at_call 14; (with_reducible refine (h3 _).mono ?_); rintro e w1 ⟨rfl, hxb⟩; (have hWn : B3 w w1 (.string c) (.int .i64 a) (.string d) (.int .i64 b) := B3.next (by first | (with_reducible assumption) | exact B3.new _ _ _ | exact B3.out (by with_reducible assumption) _) hxb); obtain ⟨hxc, hxf⟩ := bcell hxb; clear hxb hxf; obtain ⟨hxB, hxl2, hxq0, hxq1, hxq2, hxq3, hxq4, hxq5, hxf0, hxf1⟩ := id hWn; (have hxl0 : w.heap.size < w1.heap.size := (by omega)); (have hxl1 : w.heap.size + 1 < w1.heap.size := (by omega))))
        all_goals (refine bodyPost_ret (v := .tuple #[mv ⟨#[]⟩ 0, .bool false]) (by simp [results, Tryd.results20, go_sem, hxq4, hxq5]) rfl ⟨by rw [he.out] <;> rfl, by (repeat' first | exact Below.refl _ _ | (with_reducible assumption) | (with_reducible refine bAlloc (by first | omega | (simp <;> omega)) ?_) | (with_reducible refine bSet (by first | omega | (simp <;> omega)) ?_) | (with_reducible refine bDrew ?_) | (with_reducible refine bDrewN ?_) | (with_reducible refine bTrans (by with_reducible assumption) (by first | omega | (simp <;> omega)) ?_))⟩)
      | true =>
        simp only [hi] at h3
        have he := Lib.hid (sumM_yes (show (alikeB c a d b && inB (a + b)) = true by rw [hal, hi]; rfl))
        clear hm hi hal hn hmm
        go_enter Tryd.func20, Tryd.ntmps20
        go_wp2_with (first | (go_at_call 14; (with_reducible refine (h1 _).mono ?_); rintro e w1 ⟨rfl, hxb⟩; (have hWn : B3 w w1 (.string c) (.int .i64 a) (.string d) (.int .i64 b) := B3.next (by first | (with_reducible assumption) | exact B3.new _ _ _ | exact B3.out (by with_reducible assumption) _) hxb); obtain ⟨hxc, hxf⟩ := bcell hxb; clear hxb hxf; obtain ⟨hxB, hxl2, hxq0, hxq1, hxq2, hxq3, hxq4, hxq5, hxf0, hxf1⟩ := id hWn; (have hxl0 : w.heap.size < w1.heap.size := (by omega)); (have hxl1 : w.heap.size + 1 < w1.heap.size := (by omega))) | (go_at_call 14; (with_reducible refine (h2 _).mono ?_); rintro e w1 ⟨rfl, hxb⟩; (have hWn : B3 w w1 (.string c) (.int .i64 a) (.string d) (.int .i64 b) := B3.next (by first | (with_reducible assumption) | exact B3.new _ _ _ | exact B3.out (by with_reducible assumption) _) hxb); obtain ⟨hxc, hxf⟩ := bcell hxb; clear hxb hxf; obtain ⟨hxB, hxl2, hxq0, hxq1, hxq2, hxq3, hxq4, hxq5, hxf0, hxf1⟩ := id hWn; (have hxl0 : w.heap.size < w1.heap.size := (by omega)); (have hxl1 : w.heap.size + 1 < w1.heap.size := (by omega))) | (go_at_call 14; (with_reducible refine (h3 _).mono ?_); rintro e w1 ⟨rfl, hxb⟩; (have hWn : B3 w w1 (.string c) (.int .i64 a) (.string d) (.int .i64 b) := B3.next (by first | (with_reducible assumption) | exact B3.new _ _ _ | exact B3.out (by with_reducible assumption) _) hxb); obtain ⟨hxc, hxf⟩ := bcell hxb; clear hxb hxf; obtain ⟨hxB, hxl2, hxq0, hxq1, hxq2, hxq3, hxq4, hxq5, hxf0, hxf1⟩ := id hWn; (have hxl0 : w.heap.size < w1.heap.size := (by omega)); (have hxl1 : w.heap.size + 1 < w1.heap.size := (by omega))))
        all_goals (refine bodyPost_ret (v := .tuple #[mv c (a + b), .bool true]) (by simp [results, Tryd.results20, go_sem, hxq4, hxq5]) rfl ⟨by rw [he.out] <;> rfl, by (repeat' first | exact Below.refl _ _ | (with_reducible assumption) | (with_reducible refine bAlloc (by first | omega | (simp <;> omega)) ?_) | (with_reducible refine bSet (by first | omega | (simp <;> omega)) ?_) | (with_reducible refine bDrew ?_) | (with_reducible refine bDrewN ?_) | (with_reducible refine bTrans (by with_reducible assumption) (by first | omega | (simp <;> omega)) ?_))⟩)
    · have he := Lib.hid (show sumM c a d b = .tuple #[mv ⟨#[]⟩ 0, .bool false] by unfold sumM alikeB; rw [hm, hn]; simp [hcd])
      rw [show decide (c = d) = false from decide_eq_false hcd] at hs
      simp only [hm] at h1
      simp only [hn] at h2
      clear hm hn hcd x y
      go_enter Tryd.func20, Tryd.ntmps20
      go_wp2_with (first | (go_at_call 14; (with_reducible refine (h1 _).mono ?_); rintro e w1 ⟨rfl, hxb⟩; (have hWn : B3 w w1 (.string c) (.int .i64 a) (.string d) (.int .i64 b) := B3.next (by first | (with_reducible assumption) | exact B3.new _ _ _ | exact B3.out (by with_reducible assumption) _) hxb); obtain ⟨hxc, hxf⟩ := bcell hxb; clear hxb hxf; obtain ⟨hxB, hxl2, hxq0, hxq1, hxq2, hxq3, hxq4, hxq5, hxf0, hxf1⟩ := id hWn; (have hxl0 : w.heap.size < w1.heap.size := (by omega)); (have hxl1 : w.heap.size + 1 < w1.heap.size := (by omega))) | (go_at_call 14; (with_reducible refine (h2 _).mono ?_); rintro e w1 ⟨rfl, hxb⟩; (have hWn : B3 w w1 (.string c) (.int .i64 a) (.string d) (.int .i64 b) := B3.next (by first | (with_reducible assumption) | exact B3.new _ _ _ | exact B3.out (by with_reducible assumption) _) hxb); obtain ⟨hxc, hxf⟩ := bcell hxb; clear hxb hxf; obtain ⟨hxB, hxl2, hxq0, hxq1, hxq2, hxq3, hxq4, hxq5, hxf0, hxf1⟩ := id hWn; (have hxl0 : w.heap.size < w1.heap.size := (by omega)); (have hxl1 : w.heap.size + 1 < w1.heap.size := (by omega))))
      all_goals (refine bodyPost_ret (v := .tuple #[mv ⟨#[]⟩ 0, .bool false]) (by simp [results, Tryd.results20, go_sem, hxq4, hxq5]) rfl ⟨by rw [he.out] <;> rfl, by (repeat' first | exact Below.refl _ _ | (with_reducible assumption) | (with_reducible refine bAlloc (by first | omega | (simp <;> omega)) ?_) | (with_reducible refine bSet (by first | omega | (simp <;> omega)) ?_) | (with_reducible refine bDrew ?_) | (with_reducible refine bDrewN ?_) | (with_reducible refine bTrans (by with_reducible assumption) (by first | omega | (simp <;> omega)) ?_))⟩)
  · have he := Lib.hid (show sumM c a d b = .tuple #[mv ⟨#[]⟩ 0, .bool false] by
      unfold sumM alikeB
      rw [if_neg]
      simp only [Bool.and_eq_true]
      intro h
      exact hm ⟨h.1.1.1, h.1.1.2⟩)
    cases hm1 : mayM c a <;> cases hn1 : mayM d b
    all_goals first | (exfalso; exact hm ⟨hm1, hn1⟩) | skip
    all_goals
      simp only [hm1] at h1
      simp only [hn1] at h2
      clear hm hm1 hn1
      go_enter Tryd.func20, Tryd.ntmps20
      go_wp2_with (first | (go_at_call 14; (with_reducible refine (h1 _).mono ?_); rintro e w1 ⟨rfl, hxb⟩; (have hWn : B3 w w1 (.string c) (.int .i64 a) (.string d) (.int .i64 b) := B3.next (by first | (with_reducible assumption) | exact B3.new _ _ _ | exact B3.out (by with_reducible assumption) _) hxb); obtain ⟨hxc, hxf⟩ := bcell hxb; clear hxb hxf; obtain ⟨hxB, hxl2, hxq0, hxq1, hxq2, hxq3, hxq4, hxq5, hxf0, hxf1⟩ := id hWn; (have hxl0 : w.heap.size < w1.heap.size := (by omega)); (have hxl1 : w.heap.size + 1 < w1.heap.size := (by omega))) | (go_at_call 14; (with_reducible refine (h2 _).mono ?_); rintro e w1 ⟨rfl, hxb⟩; (have hWn : B3 w w1 (.string c) (.int .i64 a) (.string d) (.int .i64 b) := B3.next (by first | (with_reducible assumption) | exact B3.new _ _ _ | exact B3.out (by with_reducible assumption) _) hxb); obtain ⟨hxc, hxf⟩ := bcell hxb; clear hxb hxf; obtain ⟨hxB, hxl2, hxq0, hxq1, hxq2, hxq3, hxq4, hxq5, hxf0, hxf1⟩ := id hWn; (have hxl0 : w.heap.size < w1.heap.size := (by omega)); (have hxl1 : w.heap.size + 1 < w1.heap.size := (by omega))))
      all_goals (refine bodyPost_ret (v := .tuple #[mv ⟨#[]⟩ 0, .bool false]) (by simp [results, Tryd.results20, go_sem, hxq4, hxq5]) rfl ⟨by rw [he.out] <;> rfl, by (repeat' first | exact Below.refl _ _ | (with_reducible assumption) | (with_reducible refine bAlloc (by first | omega | (simp <;> omega)) ?_) | (with_reducible refine bSet (by first | omega | (simp <;> omega)) ?_) | (with_reducible refine bDrew ?_) | (with_reducible refine bDrewN ?_) | (with_reducible refine bTrans (by with_reducible assumption) (by first | omega | (simp <;> omega)) ?_))⟩)
end Go.Proofs.YtgnmjopifdekiaaDoor
