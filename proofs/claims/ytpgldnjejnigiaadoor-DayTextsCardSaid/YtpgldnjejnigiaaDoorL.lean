/-
  Days: the reference's Walk; Between.
-/
import Derived.Test.YtpgldnjejnigiaaDoorK
namespace Go.Proofs.YtpgldnjejnigiaaDoor
open Go.RowKit

theorem AlW.box {x : Cv} {w : World} (t : TypeId) : AlW w (w.alloc (.cells #[.slice x.A1 x.n1 x.c1, .slice x.A2 x.n2 x.c2] t)) x :=
  ⟨(Below.refl _ _).alloc (Nat.le_refl _) _, by simp, by simp [go_sem], by simp [go_sem]⟩
theorem wl_step {r : Int → Bool} {step d n : Int} {k : Nat} (h : isD d = true) (hk : msD step d ≤ k) : ∃ k', k = k' + 1 ∧ wlF r step k d n = if r d then wlF r step k' (d + step) n else if n - 1 = 0 then (d, true) else wlF r step k' (d + step) (n - 1) := by
  have := ms_pos (step := step) h
  refine ⟨k - 1, by omega, ?_⟩
  conv => lhs; rw [show k = (k - 1) + 1 by omega]
  rw [wlF, h]
  rfl
theorem wl_no {r : Int → Bool} {step d n : Int} {k : Nat} (h : isD d = false) : wlF r step k d n = (0, false) := by
  cases k with
  | zero => rfl
  | succ k => rw [wlF, h]; rfl
def walkZ (c : Cal) (d step n : Int) (i : Bool) : Int × Bool :=
  if mayB c && decide (c.rest.length = 7) then (0, false) else wlF (restsB c) step 1048580 (if i then d else d + step) n
def okStep (step : Int) : Prop := step = 1 ∨ step = -1
set_option maxRecDepth 100000 in
set_option maxHeartbeats 1000000 in
theorem walkW (x : Cv) (c : Cal) (d step n : Int) (i : Bool) (w : World) (hr : Rc w x c) (hst : okStep step) (hd : isD d = true) (hn0 : 1 ≤ n) (hn1 : n ≤ 1048577) :
    Calls Tryd.prog 20 #[x.v, .int .i64 d, .int .i64 step, .int .i64 n, .bool i] w fun e w' => e = .returned (pairV (walkZ c d step n i)) ∧ Below w.heap.size w w' := by
  have hM := fun w' (hb : Below w.heap.size w w') => refMayW x c w' (hr.next hb)
  have hR := fun d w' (hb : Below w.heap.size w w') => refRestsW x c d w' (hr.next hb)
  have hl : x.n1 = c.rest.length := hr.r1.len
  obtain ⟨d0, d1⟩ := isD_iff.1 hd
  have hst2 : -1 ≤ step ∧ step ≤ 1 := by rcases hst with rfl | rfl <;> omega
  obtain ⟨s0, s1⟩ := hst2
  by_cases h7 : mayB c = true ∧ c.rest.length = 7
  · obtain ⟨hm, h7⟩ := h7
    have he := Lib.hid (show walkZ c d step n i = (0, false) by unfold walkZ; rw [hm, h7]; rfl)
    rw [h7] at hl
    simp only [hm] at hM
    clear hm hd hst h7
    have hl7 : ((x.n1 : Int) == 7) = true := by simp; omega
    clear hl
    go_enter Tryd.func20, Tryd.ntmps20
    go_wp2_with (go_at_call 22; refine (hM _ (by (repeat' first | exact Below.refl _ _ | (with_reducible assumption) | (with_reducible refine bAlloc (by first | omega | (simp <;> omega)) ?_) | (with_reducible refine bSet (by first | omega | (simp <;> omega)) ?_) | (with_reducible refine bDrew ?_) | (with_reducible refine bDrewN ?_) | (with_reducible refine bTrans (by with_reducible assumption) (by first | omega | (simp <;> omega)) ?_)))).mono ?_; rintro e w1 ⟨rfl, hxb⟩; (obtain ⟨hxc, hxf⟩ := bcell hxb; have hxz := hxb.size; (try simp [Nat.succ_le_iff] at hxz); (try have hxy := Nat.lt_of_succ_lt hxz); (try have hxy2 := Nat.lt_of_succ_lt hxy); (try have hxy3 := Nat.lt_of_succ_lt hxy2); (try have hxy4 := Nat.lt_of_succ_lt hxy3); have hxB : Below w.heap.size w w1 := (by (repeat' first | exact Below.refl _ _ | (with_reducible assumption) | (with_reducible refine bAlloc (by first | omega | (simp <;> omega)) ?_) | (with_reducible refine bSet (by first | omega | (simp <;> omega)) ?_) | (with_reducible refine bDrew ?_) | (with_reducible refine bDrewN ?_) | (with_reducible refine bTrans (by with_reducible assumption) (by first | omega | (simp <;> omega)) ?_))); have hxk := below_all hxB; (try have hxl0 : w.heap.size < w1.heap.size := (by omega)); (try have hxl1 : w.heap.size + 1 < w1.heap.size := (by omega)); (try have hxl2 : w.heap.size + 2 < w1.heap.size := (by omega))))
    all_goals (go_ret2; rw [he.out]; exact ⟨rfl, by (repeat' first | exact Below.refl _ _ | (with_reducible assumption) | (with_reducible refine bAlloc (by first | omega | (simp <;> omega)) ?_) | (with_reducible refine bSet (by first | omega | (simp <;> omega)) ?_) | (with_reducible refine bDrew ?_) | (with_reducible refine bDrewN ?_) | (with_reducible refine bTrans (by with_reducible assumption) (by first | omega | (simp <;> omega)) ?_))⟩)
  · have he : walkZ c d step n i = wlF (restsB c) step 1048580 (if i then d else d + step) n := by
      unfold walkZ
      rw [if_neg]
      intro h
      simp at h
      exact h7 h
    have hb2 : mayB c = true → ((x.n1 : Int) == 7) = false := fun hm => by simp; intro h; exact h7 ⟨hm, by omega⟩
    have hdo : ∀ b : Bool, -1 ≤ (if b then d else d + step) ∧ (if b then d else d + step) ≤ 1048577 := fun b => by cases b <;> simp <;> omega
    have hHK := Lib.hid hst
    clear h7 hst hd hl hr
    obtain ⟨g, hg⟩ : ∃ g, (if i then d else d + step) = g := ⟨_, rfl⟩
    have hd0 := hdo i
    rw [hg] at he hd0
    obtain ⟨Z, hZ⟩ : ∃ Z, walkZ c d step n i = Z := ⟨_, rfl⟩
    rw [hZ] at he ⊢
    clear hZ
    have HE := Lib.hid he.symm
    have HG := Lib.hid hg
    clear he hg hdo
    cases hm : mayB c
    all_goals
      simp only [hm] at hM
      try (have hl7 := hb2 hm)
      clear hb2 hm
      cases i
      all_goals
        go_enter Tryd.func20, Tryd.ntmps20
        go_wp2_with (go_at_call 22; refine (hM _ (by (repeat' first | exact Below.refl _ _ | (with_reducible assumption) | (with_reducible refine bAlloc (by first | omega | (simp <;> omega)) ?_) | (with_reducible refine bSet (by first | omega | (simp <;> omega)) ?_) | (with_reducible refine bDrew ?_) | (with_reducible refine bDrewN ?_) | (with_reducible refine bTrans (by with_reducible assumption) (by first | omega | (simp <;> omega)) ?_)))).mono ?_; rintro e w1 ⟨rfl, hxb⟩; (obtain ⟨hxc, hxf⟩ := bcell hxb; have hxz := hxb.size; (try simp [Nat.succ_le_iff] at hxz); (try have hxy := Nat.lt_of_succ_lt hxz); (try have hxy2 := Nat.lt_of_succ_lt hxy); (try have hxy3 := Nat.lt_of_succ_lt hxy2); (try have hxy4 := Nat.lt_of_succ_lt hxy3); have hxB : Below w.heap.size w w1 := (by (repeat' first | exact Below.refl _ _ | (with_reducible assumption) | (with_reducible refine bAlloc (by first | omega | (simp <;> omega)) ?_) | (with_reducible refine bSet (by first | omega | (simp <;> omega)) ?_) | (with_reducible refine bDrew ?_) | (with_reducible refine bDrewN ?_) | (with_reducible refine bTrans (by with_reducible assumption) (by first | omega | (simp <;> omega)) ?_))); have hxk := below_all hxB; (try have hxl0 : w.heap.size < w1.heap.size := (by omega)); (try have hxl1 : w.heap.size + 1 < w1.heap.size := (by omega)); (try have hxl2 : w.heap.size + 2 < w1.heap.size := (by omega))))
        have hG := HG.out
        simp only [if_true, Bool.false_eq_true, if_false] at hG
        first | rw [hG] | subst hG
        have hW0 : AlW w w1 x := (AlW.box _).next hxb
        clear hM hxb hxc hxf hxz hxB hxk hxl0
        try clear hG
        try clear hl7
        go_loopw [3, 12] (fun nn dd W => ∃ (k : Nat) (D n' : Int), nn = .int .i64 n' ∧ dd = .int .i64 D ∧ AlW w W x ∧ 1 ≤ n' ∧ n' ≤ 1048577 ∧ -1 ≤ D ∧ D ≤ 1048577 ∧ msD step D ≤ k ∧ Hid (wlF (restsB c) step k D n' = Z)) (fun _ dd _ => msD step (intOf dd))
        case atStart => exact ⟨_, _, _, rfl, rfl, hW0, hn0, hn1, hd0.1, hd0.2, by unfold msD; split <;> omega, HE⟩
        case round =>
          obtain ⟨k, D, n', rfl, rfl, hW, n0, n1, D0, D1, hk, hq⟩ := hrel
          have hI := fun w => refIsW D w
          have hR1 := fun w' hb => hR D w' hb
          clear hR hW0 HE HG hd0
          have hWs := hW
          obtain ⟨hB0, hz0, z0, z1⟩ := hW
          cases hdd : isD D with
          | false =>
            have he := Lib.hid (show Z = (0, false) by rw [← hq.out]; exact wl_no hdd)
            simp only [hdd] at hI
            clear hdd
            go_wp2_with (go_at_call 14; refine (hI _).mono ?_; rintro e w' ⟨rfl, rfl⟩)
            all_goals (go_ret2; rw [he.out]; exact ⟨rfl, by (repeat' first | exact Below.refl _ _ | (with_reducible assumption) | (with_reducible refine bAlloc (by first | omega | (simp <;> omega)) ?_) | (with_reducible refine bSet (by first | omega | (simp <;> omega)) ?_) | (with_reducible refine bDrew ?_) | (with_reducible refine bDrewN ?_) | (with_reducible refine bTrans (by with_reducible assumption) (by first | omega | (simp <;> omega)) ?_))⟩)
          | true =>
            obtain ⟨k', rfl, heq⟩ := wl_step (r := restsB c) (n := n') hdd hk
            obtain ⟨e0, e1⟩ := isD_iff.1 hdd
            have hms := Lib.hid (ms_next hHK.out hdd)
            have HK := Lib.hid hk
            simp only [hdd] at hI
            clear hdd hk
            cases hrr : restsB c D with
            | true =>
              simp only [hrr] at hR1 heq
              have hj := Lib.hid (show wlF (restsB c) step k' (D + step) n' = Z by rw [← hq.out, heq]; simp only [if_true])
              clear heq hrr hq
              go_wp2_with (first | (go_at_call 14; refine (hI _).mono ?_; rintro e w' ⟨rfl, rfl⟩) | (go_at_call 25; refine (hR1 _ (by (repeat' first | exact Below.refl _ _ | (with_reducible assumption) | (with_reducible refine bAlloc (by first | omega | (simp <;> omega)) ?_) | (with_reducible refine bSet (by first | omega | (simp <;> omega)) ?_) | (with_reducible refine bDrew ?_) | (with_reducible refine bDrewN ?_) | (with_reducible refine bTrans (by with_reducible assumption) (by first | omega | (simp <;> omega)) ?_)))).mono ?_; rintro e w1 ⟨rfl, hxb⟩; (obtain ⟨hxc, hxf⟩ := bcell hxb; have hxz := hxb.size; (try simp [Nat.succ_le_iff] at hxz); (try have hxy := Nat.lt_of_succ_lt hxz); (try have hxy2 := Nat.lt_of_succ_lt hxy); (try have hxy3 := Nat.lt_of_succ_lt hxy2); (try have hxy4 := Nat.lt_of_succ_lt hxy3); have hxB : Below w.heap.size w w1 := (by (repeat' first | exact Below.refl _ _ | (with_reducible assumption) | (with_reducible refine bAlloc (by first | omega | (simp <;> omega)) ?_) | (with_reducible refine bSet (by first | omega | (simp <;> omega)) ?_) | (with_reducible refine bDrew ?_) | (with_reducible refine bDrewN ?_) | (with_reducible refine bTrans (by with_reducible assumption) (by first | omega | (simp <;> omega)) ?_))); have hxk := below_all hxB; (try have hxl0 : w.heap.size < w1.heap.size := (by omega)); (try have hxl1 : w.heap.size + 1 < w1.heap.size := (by omega)); (try have hxl2 : w.heap.size + 2 < w1.heap.size := (by omega)))))
              go_roundw
              case rel => exact ⟨k', D + step, n', rfl, rfl, hWs.next hxb, n0, n1, by omega, by omega, by have a := HK.out; have b := hms.out; omega, hj⟩
              case measure => have b := hms.out; simp [intOf]; omega
            | false =>
              simp only [hrr] at hR1 heq
              by_cases hz : n' - 1 = 0
              · have hj := Lib.hid (show Z = (D, true) by rw [← hq.out, heq]; simp only [Bool.false_eq_true, if_false]; rw [if_pos hz])
                have hzb : (n' - 1 == 0) = true := by simp [hz]
                clear heq hrr hq hz
                go_wp2_with (first | (go_at_call 14; refine (hI _).mono ?_; rintro e w' ⟨rfl, rfl⟩) | (go_at_call 25; refine (hR1 _ (by (repeat' first | exact Below.refl _ _ | (with_reducible assumption) | (with_reducible refine bAlloc (by first | omega | (simp <;> omega)) ?_) | (with_reducible refine bSet (by first | omega | (simp <;> omega)) ?_) | (with_reducible refine bDrew ?_) | (with_reducible refine bDrewN ?_) | (with_reducible refine bTrans (by with_reducible assumption) (by first | omega | (simp <;> omega)) ?_)))).mono ?_; rintro e w1 ⟨rfl, hxb⟩; (obtain ⟨hxc, hxf⟩ := bcell hxb; have hxz := hxb.size; (try simp [Nat.succ_le_iff] at hxz); (try have hxy := Nat.lt_of_succ_lt hxz); (try have hxy2 := Nat.lt_of_succ_lt hxy); (try have hxy3 := Nat.lt_of_succ_lt hxy2); (try have hxy4 := Nat.lt_of_succ_lt hxy3); have hxB : Below w.heap.size w w1 := (by (repeat' first | exact Below.refl _ _ | (with_reducible assumption) | (with_reducible refine bAlloc (by first | omega | (simp <;> omega)) ?_) | (with_reducible refine bSet (by first | omega | (simp <;> omega)) ?_) | (with_reducible refine bDrew ?_) | (with_reducible refine bDrewN ?_) | (with_reducible refine bTrans (by with_reducible assumption) (by first | omega | (simp <;> omega)) ?_))); have hxk := below_all hxB; (try have hxl0 : w.heap.size < w1.heap.size := (by omega)); (try have hxl1 : w.heap.size + 1 < w1.heap.size := (by omega)); (try have hxl2 : w.heap.size + 2 < w1.heap.size := (by omega)))))
                all_goals (go_ret2; rw [hj.out]; exact ⟨rfl, by (repeat' first | exact Below.refl _ _ | (with_reducible assumption) | (with_reducible refine bAlloc (by first | omega | (simp <;> omega)) ?_) | (with_reducible refine bSet (by first | omega | (simp <;> omega)) ?_) | (with_reducible refine bDrew ?_) | (with_reducible refine bDrewN ?_) | (with_reducible refine bTrans (by with_reducible assumption) (by first | omega | (simp <;> omega)) ?_))⟩)
              · have hj := Lib.hid (show wlF (restsB c) step k' (D + step) (n' - 1) = Z by rw [← hq.out, heq]; simp only [Bool.false_eq_true, if_false]; rw [if_neg hz])
                have hzb : (n' - 1 == 0) = false := by simp [hz]
                have n2 : 1 ≤ n' - 1 := by omega
                clear heq hrr hq hz
                go_wp2_with (first | (go_at_call 14; refine (hI _).mono ?_; rintro e w' ⟨rfl, rfl⟩) | (go_at_call 25; refine (hR1 _ (by (repeat' first | exact Below.refl _ _ | (with_reducible assumption) | (with_reducible refine bAlloc (by first | omega | (simp <;> omega)) ?_) | (with_reducible refine bSet (by first | omega | (simp <;> omega)) ?_) | (with_reducible refine bDrew ?_) | (with_reducible refine bDrewN ?_) | (with_reducible refine bTrans (by with_reducible assumption) (by first | omega | (simp <;> omega)) ?_)))).mono ?_; rintro e w1 ⟨rfl, hxb⟩; (obtain ⟨hxc, hxf⟩ := bcell hxb; have hxz := hxb.size; (try simp [Nat.succ_le_iff] at hxz); (try have hxy := Nat.lt_of_succ_lt hxz); (try have hxy2 := Nat.lt_of_succ_lt hxy); (try have hxy3 := Nat.lt_of_succ_lt hxy2); (try have hxy4 := Nat.lt_of_succ_lt hxy3); have hxB : Below w.heap.size w w1 := (by (repeat' first | exact Below.refl _ _ | (with_reducible assumption) | (with_reducible refine bAlloc (by first | omega | (simp <;> omega)) ?_) | (with_reducible refine bSet (by first | omega | (simp <;> omega)) ?_) | (with_reducible refine bDrew ?_) | (with_reducible refine bDrewN ?_) | (with_reducible refine bTrans (by with_reducible assumption) (by first | omega | (simp <;> omega)) ?_))); have hxk := below_all hxB; (try have hxl0 : w.heap.size < w1.heap.size := (by omega)); (try have hxl1 : w.heap.size + 1 < w1.heap.size := (by omega)); (try have hxl2 : w.heap.size + 2 < w1.heap.size := (by omega)))))
                go_roundw
                case rel => exact ⟨k', D + step, n' - 1, rfl, rfl, hWs.next hxb, n2, by omega, by omega, by omega, by have a := HK.out; have b := hms.out; omega, hj⟩
                case measure => have b := hms.out; simp [intOf]; omega
set_option maxRecDepth 100000 in
set_option maxHeartbeats 1000000 in
/-- whatever the number: it returns -/
theorem walkAny (x : Cv) (c : Cal) (d step n : Int) (i : Bool) (w : World) (hr : Rc w x c) (hst : okStep step) (hd : isD d = true) :
    Calls Tryd.prog 20 #[x.v, .int .i64 d, .int .i64 step, .int .i64 n, .bool i] w fun e w' => (∃ Z, e = .returned (pairV Z)) ∧ Below w.heap.size w w' := by
  have hM := fun w' (hb : Below w.heap.size w w') => refMayW x c w' (hr.next hb)
  have hR := fun d w' (hb : Below w.heap.size w w') => refRestsW x c d w' (hr.next hb)
  have hl : x.n1 = c.rest.length := hr.r1.len
  obtain ⟨d0, d1⟩ := isD_iff.1 hd
  have hst2 : -1 ≤ step ∧ step ≤ 1 := by rcases hst with rfl | rfl <;> omega
  obtain ⟨s0, s1⟩ := hst2
  by_cases h7 : mayB c = true ∧ c.rest.length = 7
  · obtain ⟨hm, h7⟩ := h7
    rw [h7] at hl
    simp only [hm] at hM
    clear hm hd hst h7
    have hl7 : ((x.n1 : Int) == 7) = true := by simp; omega
    clear hl
    go_enter Tryd.func20, Tryd.ntmps20
    go_wp2_with (go_at_call 22; refine (hM _ (by (repeat' first | exact Below.refl _ _ | (with_reducible assumption) | (with_reducible refine bAlloc (by first | omega | (simp <;> omega)) ?_) | (with_reducible refine bSet (by first | omega | (simp <;> omega)) ?_) | (with_reducible refine bDrew ?_) | (with_reducible refine bDrewN ?_) | (with_reducible refine bTrans (by with_reducible assumption) (by first | omega | (simp <;> omega)) ?_)))).mono ?_; rintro e w1 ⟨rfl, hxb⟩; (obtain ⟨hxc, hxf⟩ := bcell hxb; have hxz := hxb.size; (try simp [Nat.succ_le_iff] at hxz); (try have hxy := Nat.lt_of_succ_lt hxz); (try have hxy2 := Nat.lt_of_succ_lt hxy); (try have hxy3 := Nat.lt_of_succ_lt hxy2); (try have hxy4 := Nat.lt_of_succ_lt hxy3); have hxB : Below w.heap.size w w1 := (by (repeat' first | exact Below.refl _ _ | (with_reducible assumption) | (with_reducible refine bAlloc (by first | omega | (simp <;> omega)) ?_) | (with_reducible refine bSet (by first | omega | (simp <;> omega)) ?_) | (with_reducible refine bDrew ?_) | (with_reducible refine bDrewN ?_) | (with_reducible refine bTrans (by with_reducible assumption) (by first | omega | (simp <;> omega)) ?_))); have hxk := below_all hxB; (try have hxl0 : w.heap.size < w1.heap.size := (by omega)); (try have hxl1 : w.heap.size + 1 < w1.heap.size := (by omega)); (try have hxl2 : w.heap.size + 2 < w1.heap.size := (by omega))))
    all_goals (go_ret2; exact ⟨⟨(_, _), rfl⟩, by (repeat' first | exact Below.refl _ _ | (with_reducible assumption) | (with_reducible refine bAlloc (by first | omega | (simp <;> omega)) ?_) | (with_reducible refine bSet (by first | omega | (simp <;> omega)) ?_) | (with_reducible refine bDrew ?_) | (with_reducible refine bDrewN ?_) | (with_reducible refine bTrans (by with_reducible assumption) (by first | omega | (simp <;> omega)) ?_))⟩)
  · have hb2 : mayB c = true → ((x.n1 : Int) == 7) = false := fun hm => by simp; intro h; exact h7 ⟨hm, by omega⟩
    have hdo : ∀ b : Bool, -1 ≤ (if b then d else d + step) ∧ (if b then d else d + step) ≤ 1048577 := fun b => by cases b <;> simp <;> omega
    have hHK := Lib.hid hst
    clear h7 hst hd hl hr
    obtain ⟨g, hg⟩ : ∃ g, (if i then d else d + step) = g := ⟨_, rfl⟩
    have hd0 := hdo i
    rw [hg] at hd0
    have HG := Lib.hid hg
    clear hg hdo
    cases hm : mayB c
    all_goals
      simp only [hm] at hM
      try (have hl7 := hb2 hm)
      clear hb2 hm
      cases i
      all_goals
        go_enter Tryd.func20, Tryd.ntmps20
        go_wp2_with (go_at_call 22; refine (hM _ (by (repeat' first | exact Below.refl _ _ | (with_reducible assumption) | (with_reducible refine bAlloc (by first | omega | (simp <;> omega)) ?_) | (with_reducible refine bSet (by first | omega | (simp <;> omega)) ?_) | (with_reducible refine bDrew ?_) | (with_reducible refine bDrewN ?_) | (with_reducible refine bTrans (by with_reducible assumption) (by first | omega | (simp <;> omega)) ?_)))).mono ?_; rintro e w1 ⟨rfl, hxb⟩; (obtain ⟨hxc, hxf⟩ := bcell hxb; have hxz := hxb.size; (try simp [Nat.succ_le_iff] at hxz); (try have hxy := Nat.lt_of_succ_lt hxz); (try have hxy2 := Nat.lt_of_succ_lt hxy); (try have hxy3 := Nat.lt_of_succ_lt hxy2); (try have hxy4 := Nat.lt_of_succ_lt hxy3); have hxB : Below w.heap.size w w1 := (by (repeat' first | exact Below.refl _ _ | (with_reducible assumption) | (with_reducible refine bAlloc (by first | omega | (simp <;> omega)) ?_) | (with_reducible refine bSet (by first | omega | (simp <;> omega)) ?_) | (with_reducible refine bDrew ?_) | (with_reducible refine bDrewN ?_) | (with_reducible refine bTrans (by with_reducible assumption) (by first | omega | (simp <;> omega)) ?_))); have hxk := below_all hxB; (try have hxl0 : w.heap.size < w1.heap.size := (by omega)); (try have hxl1 : w.heap.size + 1 < w1.heap.size := (by omega)); (try have hxl2 : w.heap.size + 2 < w1.heap.size := (by omega))))
        have hG := HG.out
        simp only [if_true, Bool.false_eq_true, if_false] at hG
        first | rw [hG] | subst hG
        have hW0 : AlW w w1 x := (AlW.box _).next hxb
        clear hM hxb hxc hxf hxz hxB hxk hxl0
        try clear hG
        try clear hl7
        go_loopw [3, 12] (fun nn dd W => ∃ (D n' : Int), nn = .int .i64 n' ∧ dd = .int .i64 D ∧ AlW w W x ∧ -1 ≤ D ∧ D ≤ 1048577) (fun _ dd _ => msD step (intOf dd))
        case atStart => exact ⟨_, _, rfl, rfl, hW0, hd0.1, hd0.2⟩
        case round =>
          obtain ⟨D, n', rfl, rfl, hW, D0, D1⟩ := hrel
          have hI := fun w => refIsW D w
          have hR1 := fun w' hb => hR D w' hb
          clear hR hW0 HG hd0
          have hWs := hW
          obtain ⟨hB0, hz0, z0, z1⟩ := hW
          cases hdd : isD D with
          | false =>
            simp only [hdd] at hI
            clear hdd
            go_wp2_with (go_at_call 14; refine (hI _).mono ?_; rintro e w' ⟨rfl, rfl⟩)
            all_goals (go_ret2; exact ⟨⟨(_, _), rfl⟩, by (repeat' first | exact Below.refl _ _ | (with_reducible assumption) | (with_reducible refine bAlloc (by first | omega | (simp <;> omega)) ?_) | (with_reducible refine bSet (by first | omega | (simp <;> omega)) ?_) | (with_reducible refine bDrew ?_) | (with_reducible refine bDrewN ?_) | (with_reducible refine bTrans (by with_reducible assumption) (by first | omega | (simp <;> omega)) ?_))⟩)
          | true =>
            obtain ⟨e0, e1⟩ := isD_iff.1 hdd
            have hms := Lib.hid (ms_next hHK.out hdd)
            simp only [hdd] at hI
            clear hdd
            cases hrr : restsB c D with
            | true =>
              simp only [hrr] at hR1
              clear hrr
              go_wp2_with (first | (go_at_call 14; refine (hI _).mono ?_; rintro e w' ⟨rfl, rfl⟩) | (go_at_call 25; refine (hR1 _ (by (repeat' first | exact Below.refl _ _ | (with_reducible assumption) | (with_reducible refine bAlloc (by first | omega | (simp <;> omega)) ?_) | (with_reducible refine bSet (by first | omega | (simp <;> omega)) ?_) | (with_reducible refine bDrew ?_) | (with_reducible refine bDrewN ?_) | (with_reducible refine bTrans (by with_reducible assumption) (by first | omega | (simp <;> omega)) ?_)))).mono ?_; rintro e w1 ⟨rfl, hxb⟩; (obtain ⟨hxc, hxf⟩ := bcell hxb; have hxz := hxb.size; (try simp [Nat.succ_le_iff] at hxz); (try have hxy := Nat.lt_of_succ_lt hxz); (try have hxy2 := Nat.lt_of_succ_lt hxy); (try have hxy3 := Nat.lt_of_succ_lt hxy2); (try have hxy4 := Nat.lt_of_succ_lt hxy3); have hxB : Below w.heap.size w w1 := (by (repeat' first | exact Below.refl _ _ | (with_reducible assumption) | (with_reducible refine bAlloc (by first | omega | (simp <;> omega)) ?_) | (with_reducible refine bSet (by first | omega | (simp <;> omega)) ?_) | (with_reducible refine bDrew ?_) | (with_reducible refine bDrewN ?_) | (with_reducible refine bTrans (by with_reducible assumption) (by first | omega | (simp <;> omega)) ?_))); have hxk := below_all hxB; (try have hxl0 : w.heap.size < w1.heap.size := (by omega)); (try have hxl1 : w.heap.size + 1 < w1.heap.size := (by omega)); (try have hxl2 : w.heap.size + 2 < w1.heap.size := (by omega)))))
              go_roundw
              case rel => exact ⟨D + step, n', rfl, rfl, hWs.next hxb, by omega, by omega⟩
              case measure => have b := hms.out; simp [intOf]; omega
            | false =>
              simp only [hrr] at hR1
              clear hrr
              go_wp2_with (first | (go_at_call 14; refine (hI _).mono ?_; rintro e w' ⟨rfl, rfl⟩) | (go_at_call 25; refine (hR1 _ (by (repeat' first | exact Below.refl _ _ | (with_reducible assumption) | (with_reducible refine bAlloc (by first | omega | (simp <;> omega)) ?_) | (with_reducible refine bSet (by first | omega | (simp <;> omega)) ?_) | (with_reducible refine bDrew ?_) | (with_reducible refine bDrewN ?_) | (with_reducible refine bTrans (by with_reducible assumption) (by first | omega | (simp <;> omega)) ?_)))).mono ?_; rintro e w1 ⟨rfl, hxb⟩; (obtain ⟨hxc, hxf⟩ := bcell hxb; have hxz := hxb.size; (try simp [Nat.succ_le_iff] at hxz); (try have hxy := Nat.lt_of_succ_lt hxz); (try have hxy2 := Nat.lt_of_succ_lt hxy); (try have hxy3 := Nat.lt_of_succ_lt hxy2); (try have hxy4 := Nat.lt_of_succ_lt hxy3); have hxB : Below w.heap.size w w1 := (by (repeat' first | exact Below.refl _ _ | (with_reducible assumption) | (with_reducible refine bAlloc (by first | omega | (simp <;> omega)) ?_) | (with_reducible refine bSet (by first | omega | (simp <;> omega)) ?_) | (with_reducible refine bDrew ?_) | (with_reducible refine bDrewN ?_) | (with_reducible refine bTrans (by with_reducible assumption) (by first | omega | (simp <;> omega)) ?_))); have hxk := below_all hxB; (try have hxl0 : w.heap.size < w1.heap.size := (by omega)); (try have hxl1 : w.heap.size + 1 < w1.heap.size := (by omega)); (try have hxl2 : w.heap.size + 2 < w1.heap.size := (by omega)))))
              all_goals first
                | (go_roundw
                   case rel => exact ⟨D + step, _, rfl, rfl, hWs.next hxb, by omega, by omega⟩
                   case measure => have b := hms.out; simp [intOf]; omega)
                | (go_ret2; exact ⟨⟨(_, _), rfl⟩, by (repeat' first | exact Below.refl _ _ | (with_reducible assumption) | (with_reducible refine bAlloc (by first | omega | (simp <;> omega)) ?_) | (with_reducible refine bSet (by first | omega | (simp <;> omega)) ?_) | (with_reducible refine bDrew ?_) | (with_reducible refine bDrewN ?_) | (with_reducible refine bTrans (by with_reducible assumption) (by first | omega | (simp <;> omega)) ?_))⟩)
end Go.Proofs.YtpgldnjejnigiaaDoor
