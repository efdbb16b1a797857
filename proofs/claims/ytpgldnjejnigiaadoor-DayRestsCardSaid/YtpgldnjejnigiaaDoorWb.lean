/-
  DayRests.
-/
import Derived.Test.YtpgldnjejnigiaaDoorV
namespace Go.Proofs.YtpgldnjejnigiaaDoor
open Go.RowKit

theorem AlW.drew {w W : World} {y : Cv} (h : AlW w W y) : AlW w W.drew y := by
  obtain ⟨h1, h2, h3, h4⟩ := h
  exact ⟨h1.drew, h2, h3, h4⟩
set_option maxHeartbeats 1000000 in
set_option maxRecDepth 100000 in
theorem restsLaw (x : Cv) (c : Cal) (d : Int) (w : World) (r1 : Ri w x.A1 x.n1 c.rest) (r2 : Ri w x.A2 x.n2 c.hol) (hT : Mt w ∧ Tb w) :
    Calls Tryd.prog 5 #[x.v, .int .i64 d] w fun e w' => e = .returned (.bool true) ∧ Below w.heap.size w w' := by
  obtain ⟨hM, hT⟩ := hT
  have hA := fun w' (hb : Below w.heap.size w w') => awakeW w' (hM.next hb) (hT.next hb)
  have hI := fun w => refIsW d w
  have hH := fun w' (hb : Below w.heap.size w w') => heavyW x c w' (r1.next hb) (r2.next hb)
  have h3 := fun w => WeekdayW d w
  have hW0 : AlW w (w.alloc (.cells #[.slice x.A1 x.n1 x.c1, .slice x.A2 x.n2 x.c2] 31)) x := AlW.box _
  cases hh : heavyB c with
  | true =>
    simp only [hh] at hH
    clear hh hM hT r1 r2
    go_enter Tryd.func5, Tryd.ntmps5
    go_wp2_with (first | (go_at_call 10; refine (hA _ (by (repeat' first | exact Below.refl _ _ | (with_reducible assumption) | (with_reducible refine bAlloc (by first | omega | (simp <;> omega)) ?_) | (with_reducible refine bSet (by first | omega | (simp <;> omega)) ?_) | (with_reducible refine bDrew ?_) | (with_reducible refine bDrewN ?_) | (with_reducible refine bTrans (by with_reducible assumption) (by first | omega | (simp <;> omega)) ?_)))).mono ?_; rintro e w1 ⟨rfl, hxb⟩; have hWn := AlW.next (by with_reducible assumption) hxb; obtain ⟨hxB, hxl0, hxq0, hxq1⟩ := id hWn; clear hxb) | (go_at_call 16; refine (hH _ (by (repeat' first | exact Below.refl _ _ | (with_reducible assumption) | (with_reducible refine bAlloc (by first | omega | (simp <;> omega)) ?_) | (with_reducible refine bSet (by first | omega | (simp <;> omega)) ?_) | (with_reducible refine bDrew ?_) | (with_reducible refine bDrewN ?_) | (with_reducible refine bTrans (by with_reducible assumption) (by first | omega | (simp <;> omega)) ?_)))).mono ?_; rintro e w1 ⟨rfl, hxb⟩; have hWn := AlW.next (by with_reducible assumption) hxb; obtain ⟨hxB, hxl0, hxq0, hxq1⟩ := id hWn; clear hxb))
    all_goals (go_ret; go_light; exact ⟨rfl, by (repeat' first | exact Below.refl _ _ | (with_reducible assumption) | (with_reducible refine bAlloc (by first | omega | (simp <;> omega)) ?_) | (with_reducible refine bSet (by first | omega | (simp <;> omega)) ?_) | (with_reducible refine bDrew ?_) | (with_reducible refine bDrewN ?_) | (with_reducible refine bTrans (by with_reducible assumption) (by first | omega | (simp <;> omega)) ?_))⟩)
  | false =>
    have hr := heavy_no r1 r2 hh
    simp only [hh] at hH
    clear hh
    have h1 := fun w' (hb : Below w.heap.size w w') => mayW x c w' (hr.next hb)
    have h2 := fun w' (hb : Below w.heap.size w w') => refMayW x c w' (hr.next hb)
    have h4 := fun w' (hb : Below w.heap.size w w') => RestsW x c d w' (hr.next hb)
    have h5 := fun w' (hb : Below w.heap.size w w') => refRestsW x c d w' (hr.next hb)
    clear hM hT hr r1 r2
    generalize restsB c d = R at *
    generalize mayB c = M at *
    cases hd : isD d with
    | false =>
      have hwd : wdZ d = -1 := by unfold wdZ; rw [hd]; rfl
      simp only [hd] at hI
      simp only [hwd] at h3
      clear hd hwd
      go_enter Tryd.func5, Tryd.ntmps5
      go_wp2_with (first | (go_at_call 10; refine (hA _ (by (repeat' first | exact Below.refl _ _ | (with_reducible assumption) | (with_reducible refine bAlloc (by first | omega | (simp <;> omega)) ?_) | (with_reducible refine bSet (by first | omega | (simp <;> omega)) ?_) | (with_reducible refine bDrew ?_) | (with_reducible refine bDrewN ?_) | (with_reducible refine bTrans (by with_reducible assumption) (by first | omega | (simp <;> omega)) ?_)))).mono ?_; rintro e w1 ⟨rfl, hxb⟩; have hWn := AlW.next (by with_reducible assumption) hxb; obtain ⟨hxB, hxl0, hxq0, hxq1⟩ := id hWn; clear hxb) | (go_at_call 16; refine (hH _ (by (repeat' first | exact Below.refl _ _ | (with_reducible assumption) | (with_reducible refine bAlloc (by first | omega | (simp <;> omega)) ?_) | (with_reducible refine bSet (by first | omega | (simp <;> omega)) ?_) | (with_reducible refine bDrew ?_) | (with_reducible refine bDrewN ?_) | (with_reducible refine bTrans (by with_reducible assumption) (by first | omega | (simp <;> omega)) ?_)))).mono ?_; rintro e w1 ⟨rfl, hxb⟩; have hWn := AlW.next (by with_reducible assumption) hxb; obtain ⟨hxB, hxl0, hxq0, hxq1⟩ := id hWn; clear hxb) | (go_at_call 14; refine (hI _).mono ?_; rintro e w' ⟨rfl, rfl⟩))
      have hWd := AlW.drew hWn
      go_region_held3 (fun w' => w'.cell? ⟨w.heap.size, 0, none⟩ = some (.slice x.A1 x.n1 x.c1) ∧ w'.cell? ⟨w.heap.size, 1, none⟩ = some (.slice x.A2 x.n2 x.c2))
        (first | (go_keep; done))
        (first | (go_at_call 21; refine (h1 _ (by (repeat' first | exact Below.refl _ _ | (with_reducible assumption) | (with_reducible refine bAlloc (by first | omega | (simp <;> omega)) ?_) | (with_reducible refine bSet (by first | omega | (simp <;> omega)) ?_) | (with_reducible refine bDrew ?_) | (with_reducible refine bDrewN ?_) | (with_reducible refine bTrans (by with_reducible assumption) (by first | omega | (simp <;> omega)) ?_)))).mono ?_; rintro e w1 ⟨rfl, hxb⟩; have hWn := AlW.next (by with_reducible assumption) hxb; obtain ⟨hxB, hxl0, hxq0, hxq1⟩ := id hWn; clear hxb) | (go_at_call 22; refine (h2 _ (by (repeat' first | exact Below.refl _ _ | (with_reducible assumption) | (with_reducible refine bAlloc (by first | omega | (simp <;> omega)) ?_) | (with_reducible refine bSet (by first | omega | (simp <;> omega)) ?_) | (with_reducible refine bDrew ?_) | (with_reducible refine bDrewN ?_) | (with_reducible refine bTrans (by with_reducible assumption) (by first | omega | (simp <;> omega)) ?_)))).mono ?_; rintro e w1 ⟨rfl, hxb⟩; have hWn := AlW.next (by with_reducible assumption) hxb; obtain ⟨hxB, hxl0, hxq0, hxq1⟩ := id hWn; clear hxb) | (go_at_call 23; refine (h3 _).mono ?_; rintro e w' ⟨rfl, rfl⟩) | (go_at_call 24; refine (h4 _ (by (repeat' first | exact Below.refl _ _ | (with_reducible assumption) | (with_reducible refine bAlloc (by first | omega | (simp <;> omega)) ?_) | (with_reducible refine bSet (by first | omega | (simp <;> omega)) ?_) | (with_reducible refine bDrew ?_) | (with_reducible refine bDrewN ?_) | (with_reducible refine bTrans (by with_reducible assumption) (by first | omega | (simp <;> omega)) ?_)))).mono ?_; rintro e w1 ⟨rfl, hxb⟩; have hWn := AlW.next (by with_reducible assumption) hxb; obtain ⟨hxB, hxl0, hxq0, hxq1⟩ := id hWn; clear hxb) | (go_at_call 25; refine (h5 _ (by (repeat' first | exact Below.refl _ _ | (with_reducible assumption) | (with_reducible refine bAlloc (by first | omega | (simp <;> omega)) ?_) | (with_reducible refine bSet (by first | omega | (simp <;> omega)) ?_) | (with_reducible refine bDrew ?_) | (with_reducible refine bDrewN ?_) | (with_reducible refine bTrans (by with_reducible assumption) (by first | omega | (simp <;> omega)) ?_)))).mono ?_; rintro e w1 ⟨rfl, hxb⟩; have hWn := AlW.next (by with_reducible assumption) hxb; obtain ⟨hxB, hxl0, hxq0, hxq1⟩ := id hWn; clear hxb))
      all_goals go_wp2_with fail
      all_goals (go_ret; go_light; exact ⟨rfl, by (repeat' first | exact Below.refl _ _ | (with_reducible assumption) | (with_reducible refine bAlloc (by first | omega | (simp <;> omega)) ?_) | (with_reducible refine bSet (by first | omega | (simp <;> omega)) ?_) | (with_reducible refine bDrew ?_) | (with_reducible refine bDrewN ?_) | (with_reducible refine bTrans (by with_reducible assumption) (by first | omega | (simp <;> omega)) ?_))⟩)
    | true =>
      have hwd : wdZ d = d.tmod 7 := by unfold wdZ; rw [hd]; rfl
      obtain ⟨d0, d1⟩ := isD_iff.1 hd
      rw [Int.tmod_eq_emod_of_nonneg d0] at hwd
      simp only [hd] at hI
      simp only [hwd] at h3
      clear hd hwd
      go_enter Tryd.func5, Tryd.ntmps5
      go_wp2_with (first | (go_at_call 10; refine (hA _ (by (repeat' first | exact Below.refl _ _ | (with_reducible assumption) | (with_reducible refine bAlloc (by first | omega | (simp <;> omega)) ?_) | (with_reducible refine bSet (by first | omega | (simp <;> omega)) ?_) | (with_reducible refine bDrew ?_) | (with_reducible refine bDrewN ?_) | (with_reducible refine bTrans (by with_reducible assumption) (by first | omega | (simp <;> omega)) ?_)))).mono ?_; rintro e w1 ⟨rfl, hxb⟩; have hWn := AlW.next (by with_reducible assumption) hxb; obtain ⟨hxB, hxl0, hxq0, hxq1⟩ := id hWn; clear hxb) | (go_at_call 16; refine (hH _ (by (repeat' first | exact Below.refl _ _ | (with_reducible assumption) | (with_reducible refine bAlloc (by first | omega | (simp <;> omega)) ?_) | (with_reducible refine bSet (by first | omega | (simp <;> omega)) ?_) | (with_reducible refine bDrew ?_) | (with_reducible refine bDrewN ?_) | (with_reducible refine bTrans (by with_reducible assumption) (by first | omega | (simp <;> omega)) ?_)))).mono ?_; rintro e w1 ⟨rfl, hxb⟩; have hWn := AlW.next (by with_reducible assumption) hxb; obtain ⟨hxB, hxl0, hxq0, hxq1⟩ := id hWn; clear hxb) | (go_at_call 14; refine (hI _).mono ?_; rintro e w' ⟨rfl, rfl⟩))
      have hWd := AlW.drew hWn
      go_region_held3 (fun w' => w'.cell? ⟨w.heap.size, 0, none⟩ = some (.slice x.A1 x.n1 x.c1) ∧ w'.cell? ⟨w.heap.size, 1, none⟩ = some (.slice x.A2 x.n2 x.c2))
        (first | (go_keep; done))
        (first | (go_at_call 21; refine (h1 _ (by (repeat' first | exact Below.refl _ _ | (with_reducible assumption) | (with_reducible refine bAlloc (by first | omega | (simp <;> omega)) ?_) | (with_reducible refine bSet (by first | omega | (simp <;> omega)) ?_) | (with_reducible refine bDrew ?_) | (with_reducible refine bDrewN ?_) | (with_reducible refine bTrans (by with_reducible assumption) (by first | omega | (simp <;> omega)) ?_)))).mono ?_; rintro e w1 ⟨rfl, hxb⟩; have hWn := AlW.next (by with_reducible assumption) hxb; obtain ⟨hxB, hxl0, hxq0, hxq1⟩ := id hWn; clear hxb) | (go_at_call 22; refine (h2 _ (by (repeat' first | exact Below.refl _ _ | (with_reducible assumption) | (with_reducible refine bAlloc (by first | omega | (simp <;> omega)) ?_) | (with_reducible refine bSet (by first | omega | (simp <;> omega)) ?_) | (with_reducible refine bDrew ?_) | (with_reducible refine bDrewN ?_) | (with_reducible refine bTrans (by with_reducible assumption) (by first | omega | (simp <;> omega)) ?_)))).mono ?_; rintro e w1 ⟨rfl, hxb⟩; have hWn := AlW.next (by with_reducible assumption) hxb; obtain ⟨hxB, hxl0, hxq0, hxq1⟩ := id hWn; clear hxb) | (go_at_call 23; refine (h3 _).mono ?_; rintro e w' ⟨rfl, rfl⟩) | (go_at_call 24; refine (h4 _ (by (repeat' first | exact Below.refl _ _ | (with_reducible assumption) | (with_reducible refine bAlloc (by first | omega | (simp <;> omega)) ?_) | (with_reducible refine bSet (by first | omega | (simp <;> omega)) ?_) | (with_reducible refine bDrew ?_) | (with_reducible refine bDrewN ?_) | (with_reducible refine bTrans (by with_reducible assumption) (by first | omega | (simp <;> omega)) ?_)))).mono ?_; rintro e w1 ⟨rfl, hxb⟩; have hWn := AlW.next (by with_reducible assumption) hxb; obtain ⟨hxB, hxl0, hxq0, hxq1⟩ := id hWn; clear hxb) | (go_at_call 25; refine (h5 _ (by (repeat' first | exact Below.refl _ _ | (with_reducible assumption) | (with_reducible refine bAlloc (by first | omega | (simp <;> omega)) ?_) | (with_reducible refine bSet (by first | omega | (simp <;> omega)) ?_) | (with_reducible refine bDrew ?_) | (with_reducible refine bDrewN ?_) | (with_reducible refine bTrans (by with_reducible assumption) (by first | omega | (simp <;> omega)) ?_)))).mono ?_; rintro e w1 ⟨rfl, hxb⟩; have hWn := AlW.next (by with_reducible assumption) hxb; obtain ⟨hxB, hxl0, hxq0, hxq1⟩ := id hWn; clear hxb))
      all_goals go_wp2_with fail
      all_goals (go_ret; go_light; exact ⟨rfl, by (repeat' first | exact Below.refl _ _ | (with_reducible assumption) | (with_reducible refine bAlloc (by first | omega | (simp <;> omega)) ?_) | (with_reducible refine bSet (by first | omega | (simp <;> omega)) ?_) | (with_reducible refine bDrew ?_) | (with_reducible refine bDrewN ?_) | (with_reducible refine bTrans (by with_reducible assumption) (by first | omega | (simp <;> omega)) ?_))⟩)
open Go.ChangeShapes Go.WideShapes Go.ChangeAt Go.Deep in
open Go.ChangeMaps (open_string) in
set_option maxRecDepth 100000 in
theorem dayRests_lifted (os : Os) (started : os.Started) (H : Type) (enc : TypeId × Value → H) :
    ReturnsInHanded {} Tryd.checked os 5 .any (fun w args => (Rows.dayRestsSpec.pre enc Tryd.prog Tryd.f5 [] false w args ∧ laidMetH Tryd.prog Rows.dayRestsRow.laid w) ∧ sizedMet enc Tryd.prog Tryd.f5 (OpenSpec.ofChange Rows.dayRestsSpec) false w args)
      (Rows.dayRestsSpec.post enc Tryd.prog Tryd.f5 false true false false) := by
  refine returnsInHanded_of_change_and (C := Tryd.checked) (X := fun w _ => laidMetH Tryd.prog Rows.dayRestsRow.laid w) (fun _ _ _ hh h => h.of_heap hh) own_ started (by kernel_rfl) Tryd.func5
    (ChangeSpec.witness_shaped (enc := enc) (C := Tryd.checked) (os := os) (X := fun w _ => laidMetH Tryd.prog Rows.dayRestsRow.laid w) false (World.doorLaid Tryd.prog doorN os) #[.agg #[.slice none 0 0, .slice none 0 0], .int .i64 0] 8 rfl (World.shaped_of_RefB (by kernel_rfl) (by kernel_rfl)) (by kernel_rfl) (by kernel_rfl) (by kernel_rfl) (door_met os _)) ?_
  intro W base args ds gs before hval0 hW _ _ hL _
  have hval : ∀ (j : Nat) t v, Tryd.f5.params[j]? = some t → args[j]? = some v → Value.okWide Tryd.prog W .any base t v := hval0
  have hW' := hW
  have hT := tb_of hL
  obtain ⟨p, q, hA0, hV, rfl, hfz, hnd⟩ := hW
  have hA : DataW.TrodAll enc Tryd.prog W 0 (fun _ => true) true Tryd.f5.params.toList args.toList ds p := hA0
  rw [Tryd.params5] at hA hval
  obtain ⟨v0, v1, d0, d1, p0, p1, rfl, rfl, rfl, h0, h1⟩ := trodAll_two hA
  obtain ⟨rfl, rfl⟩ := trodVars_none hV
  (obtain ⟨x, c, rfl, r1, r2⟩ := open_cal (hval 0 31 v0 rfl rfl) h0; obtain ⟨n, rfl, -, -, -⟩ := open_int Tryd.underlying3 (hval 1 3 v1 rfl rfl) h1)
  refine (restsLaw x c n W r1 r2 hT).mono fun e W' ⟨he, hb⟩ => ?_
  subst he
  exact ⟨_, rfl, law_post laidOut_ (by kernel_rfl) rfl Tryd.underlying4 rfl rfl hW' hb⟩

open Go.WideShapes Go.ChangeAt in
theorem dayRests_said : Rows.DayRestsSaid :=
  OpenClaim.holds_of_wide 5 Tryd.f5 rfl rfl rfl rfl rfl rfl rfl ⟨rfl, rfl, rfl, rfl, rfl⟩ rfl rfl rfl rfl rfl (by kernel_rfl) Tryd.func5 (by kernel_rfl)
    (of_decide_eq_true (by kernel_rfl)) (by unfold Func.isWrapper; first | (rw [if_pos (by decide +kernel)]; kernel_rfl) | (rw [if_neg (by decide +kernel)]; exact ⟨rfl, rfl⟩))
    (fun os started H enc _ => dayRests_lifted os started H enc)
theorem dayRests_card : Rows.DayRestsCardSaid :=
  Claim7.holds_tied_plain_at .later [] _ _ _ _ dayRests_said (fun _ h => by cases h) (by kernel_rfl) (fun _ h => by cases h) dayRests_row_tie rfl ⟨rfl, rfl⟩ (by kernel_rfl) rfl (plain_ (by kernel_rfl) 5 Tryd.f5 (by kernel_rfl) Tryd.func5 (by kernel_rfl)) (by kernel_rfl)
#print axioms dayRests_card
end Go.Proofs.YtpgldnjejnigiaaDoor
