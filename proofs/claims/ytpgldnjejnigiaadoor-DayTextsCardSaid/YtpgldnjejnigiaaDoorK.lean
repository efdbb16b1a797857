/-
  Days: Next, Last, Add; the reference's Walk.
-/
import Derived.Test.YtpgldnjejnigiaaDoorG
namespace Go.Proofs.YtpgldnjejnigiaaDoor
open Go.RowKit

theorem alongNo (x : Cv) (c : Cal) (d n step : Int) (w : World) (hr : Rc w x c) (hd : isD d = false) :
    Calls Tryd.prog 40 #[x.v, .int .i64 d, .int .i64 n, .int .i64 step] w fun e w' => e = .returned (pairV (alongZ c d n step)) ∧ Below w.heap.size w w' := by
  have hO := fun w' (hb : Below w.heap.size w w') => ownW x c w' (hr.next hb)
  have he := Lib.hid (show alongZ c d n step = (0, false) from along_no hd)
  have hI := fun w => isW d w
  simp only [hd] at hI
  clear hd hr
  generalize ownV x c = y at *
  go_enter Tryd.func40, Tryd.ntmps40
  go_wp2_with fail
  refine wp_scope_jumps 0 (fun _ _ => False) (fun _ _ => 0) rfl ?_ (fun _ _ h => h.elim)
  go_wp2_with (go_at_call 44; refine (hO _ (by (repeat' first | exact Below.refl _ _ | (with_reducible assumption) | (with_reducible refine bAlloc (by first | omega | (simp <;> omega)) ?_) | (with_reducible refine bSet (by first | omega | (simp <;> omega)) ?_) | (with_reducible refine bDrew ?_) | (with_reducible refine bDrewN ?_) | (with_reducible refine bTrans (by with_reducible assumption) (by first | omega | (simp <;> omega)) ?_)))).mono ?_; rintro e w1 ⟨rfl, hxb⟩; (obtain ⟨hxc, hxf⟩ := bcell hxb; have hxz := hxb.size; (try simp [Nat.succ_le_iff] at hxz); (try have hxy := Nat.lt_of_succ_lt hxz); (try have hxy2 := Nat.lt_of_succ_lt hxy); (try have hxy3 := Nat.lt_of_succ_lt hxy2); (try have hxy4 := Nat.lt_of_succ_lt hxy3); have hxB : Below w.heap.size w w1 := (by (repeat' first | exact Below.refl _ _ | (with_reducible assumption) | (with_reducible refine bAlloc (by first | omega | (simp <;> omega)) ?_) | (with_reducible refine bSet (by first | omega | (simp <;> omega)) ?_) | (with_reducible refine bDrew ?_) | (with_reducible refine bDrewN ?_) | (with_reducible refine bTrans (by with_reducible assumption) (by first | omega | (simp <;> omega)) ?_))); have hxk := below_all hxB; (try have hxl0 : w.heap.size < w1.heap.size := (by omega)); (try have hxl1 : w.heap.size + 1 < w1.heap.size := (by omega)); (try have hxl2 : w.heap.size + 2 < w1.heap.size := (by omega))))
  go_step3
  have z0 : w1.cell? ⟨w.heap.size, 0, none⟩ = some (.slice x.A1 x.n1 x.c1) := by rw [hxc _ _ (by simp)]; simp [go_sem]
  have z1 : w1.cell? ⟨w.heap.size, 1, none⟩ = some (.slice x.A2 x.n2 x.c2) := by rw [hxc _ _ (by simp)]; simp [go_sem]
  go_wp2_with (go_at_call 33; refine (hI _).mono ?_; rintro e w' ⟨rfl, rfl⟩)
  all_goals (simp only [Exit.jump]; go_ret2; go_light; rw [he.out]; exact ⟨rfl, by (repeat' first | exact Below.refl _ _ | (with_reducible assumption) | (with_reducible refine bAlloc (by first | omega | (simp <;> omega)) ?_) | (with_reducible refine bSet (by first | omega | (simp <;> omega)) ?_) | (with_reducible refine bDrew ?_) | (with_reducible refine bDrewN ?_) | (with_reducible refine bTrans (by with_reducible assumption) (by first | omega | (simp <;> omega)) ?_))⟩)
theorem alongA (x : Cv) (c : Cal) (d n step : Int) (w : World) (hr : Rc w x c) (hst : step = 1 ∨ step = -1) (hn : -1048577 ≤ n ∧ n ≤ 1048577) :
    Calls Tryd.prog 40 #[x.v, .int .i64 d, .int .i64 n, .int .i64 step] w fun e w' => e = .returned (pairV (alongZ c d n step)) ∧ Below w.heap.size w w' := by
  cases hd : isD d with
  | false => exact alongNo x c d n step w hr hd
  | true =>
    have := isD_iff.1 hd
    exact alongW x c d n step w hr hst (by omega) hn
theorem NextW (x : Cv) (c : Cal) (d : Int) (w : World) (hr : Rc w x c) :
    Calls Tryd.prog 17 #[x.v, .int .i64 d] w fun e w' => e = .returned (pairV (alongZ c d 1 1)) ∧ Below w.heap.size w w' := by
  have hA := fun w' (hb : Below w.heap.size w w') => alongA x c d 1 1 w' (hr.next hb) (.inl rfl) (by omega)
  generalize alongZ c d 1 1 = Z at *
  go_enter Tryd.func17, Tryd.ntmps17
  go_wp2_with (go_at_call 40; refine (hA _ (by (repeat' first | exact Below.refl _ _ | (with_reducible assumption) | (with_reducible refine bAlloc (by first | omega | (simp <;> omega)) ?_) | (with_reducible refine bSet (by first | omega | (simp <;> omega)) ?_) | (with_reducible refine bDrew ?_) | (with_reducible refine bDrewN ?_) | (with_reducible refine bTrans (by with_reducible assumption) (by first | omega | (simp <;> omega)) ?_)))).mono ?_; rintro e w1 ⟨rfl, hxb⟩; (obtain ⟨hxc, hxf⟩ := bcell hxb; have hxz := hxb.size; (try simp [Nat.succ_le_iff] at hxz); (try have hxy := Nat.lt_of_succ_lt hxz); (try have hxy2 := Nat.lt_of_succ_lt hxy); (try have hxy3 := Nat.lt_of_succ_lt hxy2); (try have hxy4 := Nat.lt_of_succ_lt hxy3); have hxB : Below w.heap.size w w1 := (by (repeat' first | exact Below.refl _ _ | (with_reducible assumption) | (with_reducible refine bAlloc (by first | omega | (simp <;> omega)) ?_) | (with_reducible refine bSet (by first | omega | (simp <;> omega)) ?_) | (with_reducible refine bDrew ?_) | (with_reducible refine bDrewN ?_) | (with_reducible refine bTrans (by with_reducible assumption) (by first | omega | (simp <;> omega)) ?_))); have hxk := below_all hxB; (try have hxl0 : w.heap.size < w1.heap.size := (by omega)); (try have hxl1 : w.heap.size + 1 < w1.heap.size := (by omega)); (try have hxl2 : w.heap.size + 2 < w1.heap.size := (by omega))))
  go_ret2
  exact ⟨rfl, by (repeat' first | exact Below.refl _ _ | (with_reducible assumption) | (with_reducible refine bAlloc (by first | omega | (simp <;> omega)) ?_) | (with_reducible refine bSet (by first | omega | (simp <;> omega)) ?_) | (with_reducible refine bDrew ?_) | (with_reducible refine bDrewN ?_) | (with_reducible refine bTrans (by with_reducible assumption) (by first | omega | (simp <;> omega)) ?_))⟩
theorem LastW (x : Cv) (c : Cal) (d : Int) (w : World) (hr : Rc w x c) :
    Calls Tryd.prog 18 #[x.v, .int .i64 d] w fun e w' => e = .returned (pairV (alongZ c d 1 (-1))) ∧ Below w.heap.size w w' := by
  have hA := fun w' (hb : Below w.heap.size w w') => alongA x c d 1 (-1) w' (hr.next hb) (.inr rfl) (by omega)
  generalize alongZ c d 1 (-1) = Z at *
  go_enter Tryd.func18, Tryd.ntmps18
  go_wp2_with (go_at_call 40; refine (hA _ (by (repeat' first | exact Below.refl _ _ | (with_reducible assumption) | (with_reducible refine bAlloc (by first | omega | (simp <;> omega)) ?_) | (with_reducible refine bSet (by first | omega | (simp <;> omega)) ?_) | (with_reducible refine bDrew ?_) | (with_reducible refine bDrewN ?_) | (with_reducible refine bTrans (by with_reducible assumption) (by first | omega | (simp <;> omega)) ?_)))).mono ?_; rintro e w1 ⟨rfl, hxb⟩; (obtain ⟨hxc, hxf⟩ := bcell hxb; have hxz := hxb.size; (try simp [Nat.succ_le_iff] at hxz); (try have hxy := Nat.lt_of_succ_lt hxz); (try have hxy2 := Nat.lt_of_succ_lt hxy); (try have hxy3 := Nat.lt_of_succ_lt hxy2); (try have hxy4 := Nat.lt_of_succ_lt hxy3); have hxB : Below w.heap.size w w1 := (by (repeat' first | exact Below.refl _ _ | (with_reducible assumption) | (with_reducible refine bAlloc (by first | omega | (simp <;> omega)) ?_) | (with_reducible refine bSet (by first | omega | (simp <;> omega)) ?_) | (with_reducible refine bDrew ?_) | (with_reducible refine bDrewN ?_) | (with_reducible refine bTrans (by with_reducible assumption) (by first | omega | (simp <;> omega)) ?_))); have hxk := below_all hxB; (try have hxl0 : w.heap.size < w1.heap.size := (by omega)); (try have hxl1 : w.heap.size + 1 < w1.heap.size := (by omega)); (try have hxl2 : w.heap.size + 2 < w1.heap.size := (by omega))))
  go_ret2
  exact ⟨rfl, by (repeat' first | exact Below.refl _ _ | (with_reducible assumption) | (with_reducible refine bAlloc (by first | omega | (simp <;> omega)) ?_) | (with_reducible refine bSet (by first | omega | (simp <;> omega)) ?_) | (with_reducible refine bDrew ?_) | (with_reducible refine bDrewN ?_) | (with_reducible refine bTrans (by with_reducible assumption) (by first | omega | (simp <;> omega)) ?_))⟩
def addZ (c : Cal) (d n : Int) : Int × Bool :=
  if isD d && decide (-1048576 ≤ n) && decide (n ≤ 1048576) then (if n = 0 then alongZ c d 1 1 else if n < 0 then alongZ c (d - 1) (-n) (-1) else alongZ c (d + 1) n 1) else (0, false)
theorem AddW (x : Cv) (c : Cal) (d n : Int) (w : World) (hr : Rc w x c) :
    Calls Tryd.prog 19 #[x.v, .int .i64 d, .int .i64 n] w fun e w' => e = .returned (pairV (addZ c d n)) ∧ Below w.heap.size w w' := by
  have hI := fun w => isW d w
  cases hd : isD d with
  | false =>
    have he := Lib.hid (show addZ c d n = (0, false) by unfold addZ; rw [hd]; rfl)
    simp only [hd] at hI
    clear hd
    go_enter Tryd.func19, Tryd.ntmps19
    go_wp2_with (go_at_call 33; refine (hI _).mono ?_; rintro e w' ⟨rfl, rfl⟩)
    all_goals (go_ret2; rw [he.out]; exact ⟨rfl, by (repeat' first | exact Below.refl _ _ | (with_reducible assumption) | (with_reducible refine bAlloc (by first | omega | (simp <;> omega)) ?_) | (with_reducible refine bSet (by first | omega | (simp <;> omega)) ?_) | (with_reducible refine bDrew ?_) | (with_reducible refine bDrewN ?_) | (with_reducible refine bTrans (by with_reducible assumption) (by first | omega | (simp <;> omega)) ?_))⟩)
  | true =>
    simp only [hd] at hI
    by_cases h1 : -1048576 ≤ n ∧ n ≤ 1048576
    · have h1' := h1
      obtain ⟨n0, n1⟩ := h1
      have he := Lib.hid (show addZ c d n = (if n = 0 then alongZ c d 1 1 else if n < 0 then alongZ c (d - 1) (-n) (-1) else alongZ c (d + 1) n 1) by unfold addZ; rw [hd, if_pos]; simp; omega)
      obtain ⟨d0, d1⟩ := isD_iff.1 hd
      clear hd h1'
      have hN := fun w' (hb : Below w.heap.size w w') => NextW x c d w' (hr.next hb)
      have hB := fun w' (hb : Below w.heap.size w w') => alongA x c (d - 1) (-n) (-1) w' (hr.next hb) (.inr rfl) (by omega)
      have hF := fun w' (hb : Below w.heap.size w w') => alongA x c (d + 1) n 1 w' (hr.next hb) (.inl rfl) (by omega)
      generalize alongZ c (d - 1) (-n) (-1) = Z1 at *
      generalize alongZ c (d + 1) n 1 = Z2 at *
      by_cases hz : n = 0
      · subst hz
        have he' := Lib.hid (show addZ c d 0 = alongZ c d 1 1 from he.out)
        clear he hB hF
        generalize alongZ c d 1 1 = Z at *
        go_enter Tryd.func19, Tryd.ntmps19
        go_wp2_with (first | (go_at_call 33; refine (hI _).mono ?_; rintro e w' ⟨rfl, rfl⟩) | (go_at_call 17; refine (hN _ (by (repeat' first | exact Below.refl _ _ | (with_reducible assumption) | (with_reducible refine bAlloc (by first | omega | (simp <;> omega)) ?_) | (with_reducible refine bSet (by first | omega | (simp <;> omega)) ?_) | (with_reducible refine bDrew ?_) | (with_reducible refine bDrewN ?_) | (with_reducible refine bTrans (by with_reducible assumption) (by first | omega | (simp <;> omega)) ?_)))).mono ?_; rintro e w1 ⟨rfl, hxb⟩; (obtain ⟨hxc, hxf⟩ := bcell hxb; have hxz := hxb.size; (try simp [Nat.succ_le_iff] at hxz); (try have hxy := Nat.lt_of_succ_lt hxz); (try have hxy2 := Nat.lt_of_succ_lt hxy); (try have hxy3 := Nat.lt_of_succ_lt hxy2); (try have hxy4 := Nat.lt_of_succ_lt hxy3); have hxB : Below w.heap.size w w1 := (by (repeat' first | exact Below.refl _ _ | (with_reducible assumption) | (with_reducible refine bAlloc (by first | omega | (simp <;> omega)) ?_) | (with_reducible refine bSet (by first | omega | (simp <;> omega)) ?_) | (with_reducible refine bDrew ?_) | (with_reducible refine bDrewN ?_) | (with_reducible refine bTrans (by with_reducible assumption) (by first | omega | (simp <;> omega)) ?_))); have hxk := below_all hxB; (try have hxl0 : w.heap.size < w1.heap.size := (by omega)); (try have hxl1 : w.heap.size + 1 < w1.heap.size := (by omega)); (try have hxl2 : w.heap.size + 2 < w1.heap.size := (by omega)))))
        go_ret2
        rw [he'.out]
        exact ⟨rfl, by (repeat' first | exact Below.refl _ _ | (with_reducible assumption) | (with_reducible refine bAlloc (by first | omega | (simp <;> omega)) ?_) | (with_reducible refine bSet (by first | omega | (simp <;> omega)) ?_) | (with_reducible refine bDrew ?_) | (with_reducible refine bDrewN ?_) | (with_reducible refine bTrans (by with_reducible assumption) (by first | omega | (simp <;> omega)) ?_))⟩
      · have hzb : (n == 0) = false := by simp [hz]
        rw [if_neg hz] at he
        clear hN
        by_cases hneg : n < 0
        · rw [if_pos hneg] at he
          clear hF hz
          go_enter Tryd.func19, Tryd.ntmps19
          go_wp2_with (first | (go_at_call 33; refine (hI _).mono ?_; rintro e w' ⟨rfl, rfl⟩) | (go_at_call 40; refine (hB _ (by (repeat' first | exact Below.refl _ _ | (with_reducible assumption) | (with_reducible refine bAlloc (by first | omega | (simp <;> omega)) ?_) | (with_reducible refine bSet (by first | omega | (simp <;> omega)) ?_) | (with_reducible refine bDrew ?_) | (with_reducible refine bDrewN ?_) | (with_reducible refine bTrans (by with_reducible assumption) (by first | omega | (simp <;> omega)) ?_)))).mono ?_; rintro e w1 ⟨rfl, hxb⟩; (obtain ⟨hxc, hxf⟩ := bcell hxb; have hxz := hxb.size; (try simp [Nat.succ_le_iff] at hxz); (try have hxy := Nat.lt_of_succ_lt hxz); (try have hxy2 := Nat.lt_of_succ_lt hxy); (try have hxy3 := Nat.lt_of_succ_lt hxy2); (try have hxy4 := Nat.lt_of_succ_lt hxy3); have hxB : Below w.heap.size w w1 := (by (repeat' first | exact Below.refl _ _ | (with_reducible assumption) | (with_reducible refine bAlloc (by first | omega | (simp <;> omega)) ?_) | (with_reducible refine bSet (by first | omega | (simp <;> omega)) ?_) | (with_reducible refine bDrew ?_) | (with_reducible refine bDrewN ?_) | (with_reducible refine bTrans (by with_reducible assumption) (by first | omega | (simp <;> omega)) ?_))); have hxk := below_all hxB; (try have hxl0 : w.heap.size < w1.heap.size := (by omega)); (try have hxl1 : w.heap.size + 1 < w1.heap.size := (by omega)); (try have hxl2 : w.heap.size + 2 < w1.heap.size := (by omega)))))
          go_ret2
          rw [he.out]
          exact ⟨rfl, by (repeat' first | exact Below.refl _ _ | (with_reducible assumption) | (with_reducible refine bAlloc (by first | omega | (simp <;> omega)) ?_) | (with_reducible refine bSet (by first | omega | (simp <;> omega)) ?_) | (with_reducible refine bDrew ?_) | (with_reducible refine bDrewN ?_) | (with_reducible refine bTrans (by with_reducible assumption) (by first | omega | (simp <;> omega)) ?_))⟩
        · rw [if_neg hneg] at he
          clear hB hz
          go_enter Tryd.func19, Tryd.ntmps19
          go_wp2_with (first | (go_at_call 33; refine (hI _).mono ?_; rintro e w' ⟨rfl, rfl⟩) | (go_at_call 40; refine (hF _ (by (repeat' first | exact Below.refl _ _ | (with_reducible assumption) | (with_reducible refine bAlloc (by first | omega | (simp <;> omega)) ?_) | (with_reducible refine bSet (by first | omega | (simp <;> omega)) ?_) | (with_reducible refine bDrew ?_) | (with_reducible refine bDrewN ?_) | (with_reducible refine bTrans (by with_reducible assumption) (by first | omega | (simp <;> omega)) ?_)))).mono ?_; rintro e w1 ⟨rfl, hxb⟩; (obtain ⟨hxc, hxf⟩ := bcell hxb; have hxz := hxb.size; (try simp [Nat.succ_le_iff] at hxz); (try have hxy := Nat.lt_of_succ_lt hxz); (try have hxy2 := Nat.lt_of_succ_lt hxy); (try have hxy3 := Nat.lt_of_succ_lt hxy2); (try have hxy4 := Nat.lt_of_succ_lt hxy3); have hxB : Below w.heap.size w w1 := (by (repeat' first | exact Below.refl _ _ | (with_reducible assumption) | (with_reducible refine bAlloc (by first | omega | (simp <;> omega)) ?_) | (with_reducible refine bSet (by first | omega | (simp <;> omega)) ?_) | (with_reducible refine bDrew ?_) | (with_reducible refine bDrewN ?_) | (with_reducible refine bTrans (by with_reducible assumption) (by first | omega | (simp <;> omega)) ?_))); have hxk := below_all hxB; (try have hxl0 : w.heap.size < w1.heap.size := (by omega)); (try have hxl1 : w.heap.size + 1 < w1.heap.size := (by omega)); (try have hxl2 : w.heap.size + 2 < w1.heap.size := (by omega)))))
          all_goals first
            | (go_ret2; rw [he.out]; exact ⟨rfl, by (repeat' first | exact Below.refl _ _ | (with_reducible assumption) | (with_reducible refine bAlloc (by first | omega | (simp <;> omega)) ?_) | (with_reducible refine bSet (by first | omega | (simp <;> omega)) ?_) | (with_reducible refine bDrew ?_) | (with_reducible refine bDrewN ?_) | (with_reducible refine bTrans (by with_reducible assumption) (by first | omega | (simp <;> omega)) ?_))⟩)
            | (exfalso; omega)
    · have he := Lib.hid (show addZ c d n = (0, false) by unfold addZ; rw [hd, if_neg]; simp; omega)
      clear hd
      by_cases h2 : n < -1048576
      · clear h1
        go_enter Tryd.func19, Tryd.ntmps19
        go_wp2_with (go_at_call 33; refine (hI _).mono ?_; rintro e w' ⟨rfl, rfl⟩)
        all_goals (go_ret2; rw [he.out]; exact ⟨rfl, by (repeat' first | exact Below.refl _ _ | (with_reducible assumption) | (with_reducible refine bAlloc (by first | omega | (simp <;> omega)) ?_) | (with_reducible refine bSet (by first | omega | (simp <;> omega)) ?_) | (with_reducible refine bDrew ?_) | (with_reducible refine bDrewN ?_) | (with_reducible refine bTrans (by with_reducible assumption) (by first | omega | (simp <;> omega)) ?_))⟩)
      · have h3 : 1048576 < n := by omega
        clear h1
        go_enter Tryd.func19, Tryd.ntmps19
        go_wp2_with (go_at_call 33; refine (hI _).mono ?_; rintro e w' ⟨rfl, rfl⟩)
        all_goals (go_ret2; rw [he.out]; exact ⟨rfl, by (repeat' first | exact Below.refl _ _ | (with_reducible assumption) | (with_reducible refine bAlloc (by first | omega | (simp <;> omega)) ?_) | (with_reducible refine bSet (by first | omega | (simp <;> omega)) ?_) | (with_reducible refine bDrew ?_) | (with_reducible refine bDrewN ?_) | (with_reducible refine bTrans (by with_reducible assumption) (by first | omega | (simp <;> omega)) ?_))⟩)
end Go.Proofs.YtpgldnjejnigiaaDoor
