/-
  DayBack.
-/
import Derived.Test.YtpgldnjejnigiaaDoorZ
namespace Go.Proofs.YtpgldnjejnigiaaDoor
open Go.RowKit

theorem al_isd {r : Int → Bool} {step d n t : Int} {k : Nat} (h : alF r step k d n = (t, true)) : isD d = true := by
  cases k with
  | zero => rw [alF] at h; cases h
  | succ k =>
    rw [alF] at h
    cases hd : isD d with
    | true => rfl
    | false => rw [hd] at h; cases h
theorem back_facts {c : Cal} {d n t : Int} (hd : isD d = true) (hr : restsB c d = false) (hn0 : 1 ≤ n) (hn1 : n ≤ 300) (h : alongZ c (d + 1) n 1 = (t, true)) :
    d < t ∧ isD t = true ∧ restsB c t = false ∧ alongZ c (t - 1) n (-1) = (d, true) ∧ betZ c d t = n ∧ betZ c (d + 1) (t + 1) = n := by
  unfold alongZ at h ⊢
  unfold betZ
  obtain ⟨a1, a2, a3, a4, a5⟩ := al_up _ _ _ _ _ hn0 h
  rw [rests_own hd] at hr
  rw [rests_own a2]
  generalize restsC (ownC c) = R at *
  obtain ⟨d0, d1⟩ := isD_iff.1 hd
  obtain ⟨t0, t1⟩ := isD_iff.1 a2
  have e1 := wkI_succ R d0
  have e2 := wkI_succ R t0
  rw [hr] at e1
  rw [a3] at e2
  simp only [Bool.false_eq_true, if_false] at e1 e2
  have e3 : (wkI R t : Int) = wkI R d + n := by omega
  refine ⟨by omega, a2, a3, ?_, ?_, ?_⟩
  · have hj := al_down R d hd hr (t - 1 - d).toNat 1048580 n (by omega) (isD_iff.2 (by omega)) hn0 (by rw [show d + ((t - 1 - d).toNat : Int) + 1 = t by omega]; exact e3)
    rw [show d + ((t - 1 - d).toNat : Int) = t - 1 by omega] at hj
    exact hj
  · rw [show min t 1048577 = t by omega, show max d 0 = d by omega, if_neg (by omega)]
    omega
  · rw [show min (t + 1) 1048577 = t + 1 by omega, show max (d + 1) 0 = d + 1 by omega, if_neg (by omega)]
    omega
set_option maxHeartbeats 2000000 in
set_option maxRecDepth 100000 in
theorem backLaw (x : Cv) (c : Cal) (d n : Int) (w : World) (r1 : Ri w x.A1 x.n1 c.rest) (r2 : Ri w x.A2 x.n2 c.hol) (hT : Mt w ∧ Tb w) :
    Calls Tryd.prog 7 #[x.v, .int .i64 d, .int .i64 n] w fun e w' => e = .returned (.bool true) ∧ Below w.heap.size w w' := by
  obtain ⟨hM, hT⟩ := hT
  have hA := fun w' (hb : Below w.heap.size w w') => awakeW w' (hM.next hb) (hT.next hb)
  have hH := fun w' (hb : Below w.heap.size w w') => heavyW x c w' (r1.next hb) (r2.next hb)
  have hW0 : AlW w (w.alloc (.cells #[.slice x.A1 x.n1 x.c1, .slice x.A2 x.n2 x.c2] 31)) x := AlW.box _
  cases hh : heavyB c with
  | true =>
    simp only [hh] at hH
    clear hh hM hT r1 r2
    go_enter Tryd.func7, Tryd.ntmps7
    go_wp2_with (first | (go_at_call 10; (with_reducible refine (hA _ (by (repeat' first | exact Below.refl _ _ | (with_reducible assumption) | (with_reducible refine bAlloc (by first | omega | (simp <;> omega)) ?_) | (with_reducible refine bSet (by first | omega | (simp <;> omega)) ?_) | (with_reducible refine bDrew ?_) | (with_reducible refine bDrewN ?_) | (with_reducible refine bTrans (by with_reducible assumption) (by first | omega | (simp <;> omega)) ?_)))).mono ?_); rintro e w1 ⟨rfl, hxb⟩; have hWn := AlW.next (by with_reducible assumption) hxb; obtain ⟨hxB, hxl0, hxq0, hxq1⟩ := id hWn; clear hxb) | (go_at_call 16; (with_reducible refine (hH _ (by (repeat' first | exact Below.refl _ _ | (with_reducible assumption) | (with_reducible refine bAlloc (by first | omega | (simp <;> omega)) ?_) | (with_reducible refine bSet (by first | omega | (simp <;> omega)) ?_) | (with_reducible refine bDrew ?_) | (with_reducible refine bDrewN ?_) | (with_reducible refine bTrans (by with_reducible assumption) (by first | omega | (simp <;> omega)) ?_)))).mono ?_); rintro e w1 ⟨rfl, hxb⟩; have hWn := AlW.next (by with_reducible assumption) hxb; obtain ⟨hxB, hxl0, hxq0, hxq1⟩ := id hWn; clear hxb))
    all_goals (go_ret; go_light; exact ⟨rfl, by (repeat' first | exact Below.refl _ _ | (with_reducible assumption) | (with_reducible refine bAlloc (by first | omega | (simp <;> omega)) ?_) | (with_reducible refine bSet (by first | omega | (simp <;> omega)) ?_) | (with_reducible refine bDrew ?_) | (with_reducible refine bDrewN ?_) | (with_reducible refine bTrans (by with_reducible assumption) (by first | omega | (simp <;> omega)) ?_))⟩)
  | false =>
    have hr := heavy_no r1 r2 hh
    simp only [hh] at hH
    clear hh hM hT r1 r2
    by_cases hq : 1 ≤ n ∧ n ≤ 300
    · obtain ⟨q0, q1⟩ := hq
      have h1 := fun w' (hb : Below w.heap.size w w') => worksW x c d w' (hr.next hb)
      cases hw : (isD d && !restsB c d) with
      | false =>
        simp only [hw] at h1
        clear hw hr
        go_enter Tryd.func7, Tryd.ntmps7
        go_wp2_with (first | (go_at_call 10; (with_reducible refine (hA _ (by (repeat' first | exact Below.refl _ _ | (with_reducible assumption) | (with_reducible refine bAlloc (by first | omega | (simp <;> omega)) ?_) | (with_reducible refine bSet (by first | omega | (simp <;> omega)) ?_) | (with_reducible refine bDrew ?_) | (with_reducible refine bDrewN ?_) | (with_reducible refine bTrans (by with_reducible assumption) (by first | omega | (simp <;> omega)) ?_)))).mono ?_); rintro e w1 ⟨rfl, hxb⟩; have hWn := AlW.next (by with_reducible assumption) hxb; obtain ⟨hxB, hxl0, hxq0, hxq1⟩ := id hWn; clear hxb) | (go_at_call 16; (with_reducible refine (hH _ (by (repeat' first | exact Below.refl _ _ | (with_reducible assumption) | (with_reducible refine bAlloc (by first | omega | (simp <;> omega)) ?_) | (with_reducible refine bSet (by first | omega | (simp <;> omega)) ?_) | (with_reducible refine bDrew ?_) | (with_reducible refine bDrewN ?_) | (with_reducible refine bTrans (by with_reducible assumption) (by first | omega | (simp <;> omega)) ?_)))).mono ?_); rintro e w1 ⟨rfl, hxb⟩; have hWn := AlW.next (by with_reducible assumption) hxb; obtain ⟨hxB, hxl0, hxq0, hxq1⟩ := id hWn; clear hxb) | (go_at_call 28; (with_reducible refine (h1 _ (by (repeat' first | exact Below.refl _ _ | (with_reducible assumption) | (with_reducible refine bAlloc (by first | omega | (simp <;> omega)) ?_) | (with_reducible refine bSet (by first | omega | (simp <;> omega)) ?_) | (with_reducible refine bDrew ?_) | (with_reducible refine bDrewN ?_) | (with_reducible refine bTrans (by with_reducible assumption) (by first | omega | (simp <;> omega)) ?_)))).mono ?_); rintro e w1 ⟨rfl, hxb⟩; have hWn := AlW.next (by with_reducible assumption) hxb; obtain ⟨hxB, hxl0, hxq0, hxq1⟩ := id hWn; clear hxb))
        all_goals (go_ret; go_light; exact ⟨rfl, by (repeat' first | exact Below.refl _ _ | (with_reducible assumption) | (with_reducible refine bAlloc (by first | omega | (simp <;> omega)) ?_) | (with_reducible refine bSet (by first | omega | (simp <;> omega)) ?_) | (with_reducible refine bDrew ?_) | (with_reducible refine bDrewN ?_) | (with_reducible refine bTrans (by with_reducible assumption) (by first | omega | (simp <;> omega)) ?_))⟩)
      | true =>
        simp only [hw] at h1
        have hw2 := hw
        simp at hw2
        obtain ⟨hd, hrd⟩ := hw2
        clear hw
        have h2 := fun w' (hb : Below w.heap.size w w') => AddW x c d n w' (hr.next hb)
        have ha : addZ c d n = alongZ c (d + 1) n 1 := by
          unfold addZ
          rw [if_pos (by simp [hd]; omega), if_neg (by omega), if_neg (by omega)]
        rw [ha] at h2
        obtain ⟨d0, d1⟩ := isD_iff.1 hd
        have hz0 := al_zero (restsC (ownC c)) 1 1048580 (d + 1) n
        have hbf := fun t => back_facts (t := t) hd hrd q0 q1
        change (alongZ c (d + 1) n 1).2 = false → (alongZ c (d + 1) n 1).1 = 0 at hz0
        clear ha hd hrd
        generalize alongZ c (d + 1) n 1 = Z at *
        obtain ⟨t, b⟩ := Z
        cases b with
        | false =>
          obtain rfl : t = 0 := hz0 rfl
          clear hz0 hbf hr
          go_enter Tryd.func7, Tryd.ntmps7
          go_wp2_with (first | (go_at_call 10; (with_reducible refine (hA _ (by (repeat' first | exact Below.refl _ _ | (with_reducible assumption) | (with_reducible refine bAlloc (by first | omega | (simp <;> omega)) ?_) | (with_reducible refine bSet (by first | omega | (simp <;> omega)) ?_) | (with_reducible refine bDrew ?_) | (with_reducible refine bDrewN ?_) | (with_reducible refine bTrans (by with_reducible assumption) (by first | omega | (simp <;> omega)) ?_)))).mono ?_); rintro e w1 ⟨rfl, hxb⟩; have hWn := AlW.next (by with_reducible assumption) hxb; obtain ⟨hxB, hxl0, hxq0, hxq1⟩ := id hWn; clear hxb) | (go_at_call 16; (with_reducible refine (hH _ (by (repeat' first | exact Below.refl _ _ | (with_reducible assumption) | (with_reducible refine bAlloc (by first | omega | (simp <;> omega)) ?_) | (with_reducible refine bSet (by first | omega | (simp <;> omega)) ?_) | (with_reducible refine bDrew ?_) | (with_reducible refine bDrewN ?_) | (with_reducible refine bTrans (by with_reducible assumption) (by first | omega | (simp <;> omega)) ?_)))).mono ?_); rintro e w1 ⟨rfl, hxb⟩; have hWn := AlW.next (by with_reducible assumption) hxb; obtain ⟨hxB, hxl0, hxq0, hxq1⟩ := id hWn; clear hxb) | (go_at_call 28; (with_reducible refine (h1 _ (by (repeat' first | exact Below.refl _ _ | (with_reducible assumption) | (with_reducible refine bAlloc (by first | omega | (simp <;> omega)) ?_) | (with_reducible refine bSet (by first | omega | (simp <;> omega)) ?_) | (with_reducible refine bDrew ?_) | (with_reducible refine bDrewN ?_) | (with_reducible refine bTrans (by with_reducible assumption) (by first | omega | (simp <;> omega)) ?_)))).mono ?_); rintro e w1 ⟨rfl, hxb⟩; have hWn := AlW.next (by with_reducible assumption) hxb; obtain ⟨hxB, hxl0, hxq0, hxq1⟩ := id hWn; clear hxb) | (go_at_call 19; (with_reducible refine (h2 _ (by (repeat' first | exact Below.refl _ _ | (with_reducible assumption) | (with_reducible refine bAlloc (by first | omega | (simp <;> omega)) ?_) | (with_reducible refine bSet (by first | omega | (simp <;> omega)) ?_) | (with_reducible refine bDrew ?_) | (with_reducible refine bDrewN ?_) | (with_reducible refine bTrans (by with_reducible assumption) (by first | omega | (simp <;> omega)) ?_)))).mono ?_); rintro e w1 ⟨rfl, hxb⟩; have hWn := AlW.next (by with_reducible assumption) hxb; obtain ⟨hxB, hxl0, hxq0, hxq1⟩ := id hWn; clear hxb))
          all_goals (go_ret; go_light; exact ⟨rfl, by (repeat' first | exact Below.refl _ _ | (with_reducible assumption) | (with_reducible refine bAlloc (by first | omega | (simp <;> omega)) ?_) | (with_reducible refine bSet (by first | omega | (simp <;> omega)) ?_) | (with_reducible refine bDrew ?_) | (with_reducible refine bDrewN ?_) | (with_reducible refine bTrans (by with_reducible assumption) (by first | omega | (simp <;> omega)) ?_))⟩)
        | true =>
          obtain ⟨f1, f2, f3, f4, f5, f6⟩ := hbf t rfl
          obtain ⟨t0, t1⟩ := isD_iff.1 f2
          have h3 := fun w' (hb : Below w.heap.size w w') => AddW x c t (-n) w' (hr.next hb)
          have ha : addZ c t (-n) = (d, true) := by
            unfold addZ
            rw [if_pos (by simp [f2]; omega), if_neg (by omega), if_pos (by omega), Int.neg_neg, f4]
          rw [ha] at h3
          have h4 := fun w' (hb : Below w.heap.size w w') => RestsW x c t w' (hr.next hb)
          rw [f3] at h4
          have h5 := fun w' (hb : Below w.heap.size w w') => betweenW x c d t w' (hr.next hb)
          have h6 := fun w' (hb : Below w.heap.size w w') => betweenW x c (d + 1) (t + 1) w' (hr.next hb)
          rw [f5] at h5
          rw [f6] at h6
          clear hz0 hbf hr ha f2 f3 f4 f5 f6
          go_enter Tryd.func7, Tryd.ntmps7
          go_wp2_with (first | (go_at_call 10; (with_reducible refine (hA _ (by (repeat' first | exact Below.refl _ _ | (with_reducible assumption) | (with_reducible refine bAlloc (by first | omega | (simp <;> omega)) ?_) | (with_reducible refine bSet (by first | omega | (simp <;> omega)) ?_) | (with_reducible refine bDrew ?_) | (with_reducible refine bDrewN ?_) | (with_reducible refine bTrans (by with_reducible assumption) (by first | omega | (simp <;> omega)) ?_)))).mono ?_); rintro e w1 ⟨rfl, hxb⟩; have hWn := AlW.next (by with_reducible assumption) hxb; obtain ⟨hxB, hxl0, hxq0, hxq1⟩ := id hWn; clear hxb) | (go_at_call 16; (with_reducible refine (hH _ (by (repeat' first | exact Below.refl _ _ | (with_reducible assumption) | (with_reducible refine bAlloc (by first | omega | (simp <;> omega)) ?_) | (with_reducible refine bSet (by first | omega | (simp <;> omega)) ?_) | (with_reducible refine bDrew ?_) | (with_reducible refine bDrewN ?_) | (with_reducible refine bTrans (by with_reducible assumption) (by first | omega | (simp <;> omega)) ?_)))).mono ?_); rintro e w1 ⟨rfl, hxb⟩; have hWn := AlW.next (by with_reducible assumption) hxb; obtain ⟨hxB, hxl0, hxq0, hxq1⟩ := id hWn; clear hxb) | (go_at_call 28; (with_reducible refine (h1 _ (by (repeat' first | exact Below.refl _ _ | (with_reducible assumption) | (with_reducible refine bAlloc (by first | omega | (simp <;> omega)) ?_) | (with_reducible refine bSet (by first | omega | (simp <;> omega)) ?_) | (with_reducible refine bDrew ?_) | (with_reducible refine bDrewN ?_) | (with_reducible refine bTrans (by with_reducible assumption) (by first | omega | (simp <;> omega)) ?_)))).mono ?_); rintro e w1 ⟨rfl, hxb⟩; have hWn := AlW.next (by with_reducible assumption) hxb; obtain ⟨hxB, hxl0, hxq0, hxq1⟩ := id hWn; clear hxb) | (go_at_call 19; (with_reducible refine (h2 _ (by (repeat' first | exact Below.refl _ _ | (with_reducible assumption) | (with_reducible refine bAlloc (by first | omega | (simp <;> omega)) ?_) | (with_reducible refine bSet (by first | omega | (simp <;> omega)) ?_) | (with_reducible refine bDrew ?_) | (with_reducible refine bDrewN ?_) | (with_reducible refine bTrans (by with_reducible assumption) (by first | omega | (simp <;> omega)) ?_)))).mono ?_); rintro e w1 ⟨rfl, hxb⟩; have hWn := AlW.next (by with_reducible assumption) hxb; obtain ⟨hxB, hxl0, hxq0, hxq1⟩ := id hWn; clear hxb) | (go_at_call 19; (with_reducible refine (h3 _ (by (repeat' first | exact Below.refl _ _ | (with_reducible assumption) | (with_reducible refine bAlloc (by first | omega | (simp <;> omega)) ?_) | (with_reducible refine bSet (by first | omega | (simp <;> omega)) ?_) | (with_reducible refine bDrew ?_) | (with_reducible refine bDrewN ?_) | (with_reducible refine bTrans (by with_reducible assumption) (by first | omega | (simp <;> omega)) ?_)))).mono ?_); rintro e w1 ⟨rfl, hxb⟩; have hWn := AlW.next (by with_reducible assumption) hxb; obtain ⟨hxB, hxl0, hxq0, hxq1⟩ := id hWn; clear hxb) | (go_at_call 24; (with_reducible refine (h4 _ (by (repeat' first | exact Below.refl _ _ | (with_reducible assumption) | (with_reducible refine bAlloc (by first | omega | (simp <;> omega)) ?_) | (with_reducible refine bSet (by first | omega | (simp <;> omega)) ?_) | (with_reducible refine bDrew ?_) | (with_reducible refine bDrewN ?_) | (with_reducible refine bTrans (by with_reducible assumption) (by first | omega | (simp <;> omega)) ?_)))).mono ?_); rintro e w1 ⟨rfl, hxb⟩; have hWn := AlW.next (by with_reducible assumption) hxb; obtain ⟨hxB, hxl0, hxq0, hxq1⟩ := id hWn; clear hxb) | (go_at_call 26; (with_reducible refine (h5 _ (by (repeat' first | exact Below.refl _ _ | (with_reducible assumption) | (with_reducible refine bAlloc (by first | omega | (simp <;> omega)) ?_) | (with_reducible refine bSet (by first | omega | (simp <;> omega)) ?_) | (with_reducible refine bDrew ?_) | (with_reducible refine bDrewN ?_) | (with_reducible refine bTrans (by with_reducible assumption) (by first | omega | (simp <;> omega)) ?_)))).mono ?_); rintro e w1 ⟨rfl, hxb⟩; have hWn := AlW.next (by with_reducible assumption) hxb; obtain ⟨hxB, hxl0, hxq0, hxq1⟩ := id hWn; clear hxb) | (go_at_call 26; (with_reducible refine (h6 _ (by (repeat' first | exact Below.refl _ _ | (with_reducible assumption) | (with_reducible refine bAlloc (by first | omega | (simp <;> omega)) ?_) | (with_reducible refine bSet (by first | omega | (simp <;> omega)) ?_) | (with_reducible refine bDrew ?_) | (with_reducible refine bDrewN ?_) | (with_reducible refine bTrans (by with_reducible assumption) (by first | omega | (simp <;> omega)) ?_)))).mono ?_); rintro e w1 ⟨rfl, hxb⟩; have hWn := AlW.next (by with_reducible assumption) hxb; obtain ⟨hxB, hxl0, hxq0, hxq1⟩ := id hWn; clear hxb))
          all_goals (go_ret; go_light; exact ⟨rfl, by (repeat' first | exact Below.refl _ _ | (with_reducible assumption) | (with_reducible refine bAlloc (by first | omega | (simp <;> omega)) ?_) | (with_reducible refine bSet (by first | omega | (simp <;> omega)) ?_) | (with_reducible refine bDrew ?_) | (with_reducible refine bDrewN ?_) | (with_reducible refine bTrans (by with_reducible assumption) (by first | omega | (simp <;> omega)) ?_))⟩)
    · have hq' := Lib.hid hq
      clear hq hr
      go_enter Tryd.func7, Tryd.ntmps7
      go_wp2_with (first | (go_at_call 10; (with_reducible refine (hA _ (by (repeat' first | exact Below.refl _ _ | (with_reducible assumption) | (with_reducible refine bAlloc (by first | omega | (simp <;> omega)) ?_) | (with_reducible refine bSet (by first | omega | (simp <;> omega)) ?_) | (with_reducible refine bDrew ?_) | (with_reducible refine bDrewN ?_) | (with_reducible refine bTrans (by with_reducible assumption) (by first | omega | (simp <;> omega)) ?_)))).mono ?_); rintro e w1 ⟨rfl, hxb⟩; have hWn := AlW.next (by with_reducible assumption) hxb; obtain ⟨hxB, hxl0, hxq0, hxq1⟩ := id hWn; clear hxb) | (go_at_call 16; (with_reducible refine (hH _ (by (repeat' first | exact Below.refl _ _ | (with_reducible assumption) | (with_reducible refine bAlloc (by first | omega | (simp <;> omega)) ?_) | (with_reducible refine bSet (by first | omega | (simp <;> omega)) ?_) | (with_reducible refine bDrew ?_) | (with_reducible refine bDrewN ?_) | (with_reducible refine bTrans (by with_reducible assumption) (by first | omega | (simp <;> omega)) ?_)))).mono ?_); rintro e w1 ⟨rfl, hxb⟩; have hWn := AlW.next (by with_reducible assumption) hxb; obtain ⟨hxB, hxl0, hxq0, hxq1⟩ := id hWn; clear hxb) | (exfalso; have := hq'.out; omega))
      all_goals first
        | (go_ret; go_light; exact ⟨rfl, by (repeat' first | exact Below.refl _ _ | (with_reducible assumption) | (with_reducible refine bAlloc (by first | omega | (simp <;> omega)) ?_) | (with_reducible refine bSet (by first | omega | (simp <;> omega)) ?_) | (with_reducible refine bDrew ?_) | (with_reducible refine bDrewN ?_) | (with_reducible refine bTrans (by with_reducible assumption) (by first | omega | (simp <;> omega)) ?_))⟩)
        | (exfalso; have := hq'.out; omega)
open Go.ChangeShapes Go.WideShapes Go.ChangeAt Go.Deep in
open Go.ChangeMaps (open_string) in
set_option maxRecDepth 100000 in
theorem dayBack_lifted (os : Os) (started : os.Started) (H : Type) (enc : TypeId × Value → H) :
    ReturnsInHanded {} Tryd.checked os 7 .any (fun w args => (Rows.dayBackSpec.pre enc Tryd.prog Tryd.f7 [] false w args ∧ laidMetH Tryd.prog Rows.dayBackRow.laid w) ∧ sizedMet enc Tryd.prog Tryd.f7 (OpenSpec.ofChange Rows.dayBackSpec) false w args)
      (Rows.dayBackSpec.post enc Tryd.prog Tryd.f7 false true false false) := by
  refine returnsInHanded_of_change_and (C := Tryd.checked) (X := fun w _ => laidMetH Tryd.prog Rows.dayBackRow.laid w) (fun _ _ _ hh h => h.of_heap hh) own_ started (by kernel_rfl) Tryd.func7
    (ChangeSpec.witness_shaped (enc := enc) (C := Tryd.checked) (os := os) (X := fun w _ => laidMetH Tryd.prog Rows.dayBackRow.laid w) false (World.doorLaid Tryd.prog doorN os) #[.agg #[.slice none 0 0, .slice none 0 0], .int .i64 0, .int .i64 0] 8 rfl (World.shaped_of_RefB (by kernel_rfl) (by kernel_rfl)) (by kernel_rfl) (by kernel_rfl) (by kernel_rfl) (door_met os _)) ?_
  intro W base args ds gs before hval0 hW _ _ hL _
  have hval : ∀ (j : Nat) t v, Tryd.f7.params[j]? = some t → args[j]? = some v → Value.okWide Tryd.prog W .any base t v := hval0
  have hW' := hW
  have hT := tb_of hL
  obtain ⟨p, q, hA0, hV, rfl, hfz, hnd⟩ := hW
  have hA : DataW.TrodAll enc Tryd.prog W 0 (fun _ => true) true Tryd.f7.params.toList args.toList ds p := hA0
  rw [Tryd.params7] at hA hval
  obtain ⟨v0, v1, v2, d0, d1, d2, p0, p1, p2, rfl, rfl, rfl, h0, h1, h2⟩ := trodAll_three hA
  obtain ⟨rfl, rfl⟩ := trodVars_none hV
  (obtain ⟨x, c, rfl, r1, r2⟩ := open_cal (hval 0 31 v0 rfl rfl) h0; obtain ⟨d, rfl, -, -, -⟩ := open_int Tryd.underlying3 (hval 1 3 v1 rfl rfl) h1; obtain ⟨n, rfl, -, -, -⟩ := open_int Tryd.underlying3 (hval 2 3 v2 rfl rfl) h2)
  refine (backLaw x c d n W r1 r2 hT).mono fun e W' ⟨he, hb⟩ => ?_
  subst he
  exact ⟨_, rfl, law_post laidOut_ (by kernel_rfl) rfl Tryd.underlying4 rfl rfl hW' hb⟩

open Go.WideShapes Go.ChangeAt in
theorem dayBack_said : Rows.DayBackSaid :=
  OpenClaim.holds_of_wide 7 Tryd.f7 rfl rfl rfl rfl rfl rfl rfl ⟨rfl, rfl, rfl, rfl, rfl⟩ rfl rfl rfl rfl rfl (by kernel_rfl) Tryd.func7 (by kernel_rfl)
    (of_decide_eq_true (by kernel_rfl)) (by unfold Func.isWrapper; first | (rw [if_pos (by decide +kernel)]; kernel_rfl) | (rw [if_neg (by decide +kernel)]; exact ⟨rfl, rfl⟩))
    (fun os started H enc _ => dayBack_lifted os started H enc)
theorem dayBack_card : Rows.DayBackCardSaid :=
  Claim7.holds_tied_plain_at .later [] _ _ _ _ dayBack_said (fun _ h => by cases h) (by kernel_rfl) (fun _ h => by cases h) dayBack_row_tie rfl ⟨rfl, rfl⟩ (by kernel_rfl) rfl (plain_ (by kernel_rfl) 7 Tryd.f7 (by kernel_rfl) Tryd.func7 (by kernel_rfl)) (by kernel_rfl)
#print axioms dayBack_card
end Go.Proofs.YtpgldnjejnigiaaDoor
