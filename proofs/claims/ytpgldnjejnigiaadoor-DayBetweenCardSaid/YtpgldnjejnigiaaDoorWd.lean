/-
  DayBetween, DayBack.
-/
import Derived.Test.YtpgldnjejnigiaaDoorZ
namespace Go.Proofs.YtpgldnjejnigiaaDoor
open Go.RowKit

theorem bet_add (c : Cal) {f m t : Int} (h1 : f ≤ m) (h2 : m ≤ t) : betZ c f t = betZ c f m + betZ c m t := by
  unfold betZ
  generalize restsC (ownC c) = R
  by_cases a : min t 1048577 ≤ max f 0
  · rw [if_pos a]
    rw [if_pos (by omega), if_pos (by omega)]
    rfl
  · rw [if_neg a]
    by_cases b : min m 1048577 ≤ max f 0
    · rw [if_pos b]
      by_cases d : min t 1048577 ≤ max m 0
      · rw [if_pos d]
        exfalso
        omega
      · rw [if_neg d, show max m 0 = max f 0 by omega]
        omega
    · rw [if_neg b]
      by_cases d : min t 1048577 ≤ max m 0
      · rw [if_pos d, show min m 1048577 = min t 1048577 by omega]
        omega
      · rw [if_neg d, show max m 0 = min m 1048577 by omega]
        omega
theorem bet_range (c : Cal) (f t : Int) : 0 ≤ betZ c f t ∧ betZ c f t ≤ 1048577 := by
  unfold betZ
  generalize restsC (ownC c) = R
  split
  · omega
  · have h1 := wkI_mono R (a := max f 0) (b := min t 1048577) (by omega)
    have h2 := wkI_le R (d := min t 1048577) (by omega)
    omega
set_option maxHeartbeats 2000000 in
set_option maxRecDepth 100000 in
theorem betweenLaw (x : Cv) (c : Cal) (f m t : Int) (w : World) (r1 : Ri w x.A1 x.n1 c.rest) (r2 : Ri w x.A2 x.n2 c.hol) (hT : Mt w ∧ Tb w) :
    Calls Tryd.prog 6 #[x.v, .int .i64 f, .int .i64 m, .int .i64 t] w fun e w' => e = .returned (.bool true) ∧ Below w.heap.size w w' := by
  obtain ⟨hM, hT⟩ := hT
  have hA := fun w' (hb : Below w.heap.size w w') => awakeW w' (hM.next hb) (hT.next hb)
  have hH := fun w' (hb : Below w.heap.size w w') => heavyW x c w' (r1.next hb) (r2.next hb)
  have hW0 : AlW w (w.alloc (.cells #[.slice x.A1 x.n1 x.c1, .slice x.A2 x.n2 x.c2] 31)) x := AlW.box _
  cases hh : heavyB c with
  | true =>
    simp only [hh] at hH
    clear hh hM hT r1 r2
    go_enter Tryd.func6, Tryd.ntmps6
    go_wp2_with (first | (go_at_call 10; (with_reducible refine (hA _ (by (repeat' first | exact Below.refl _ _ | (with_reducible assumption) | (with_reducible refine bAlloc (by first | omega | (simp <;> omega)) ?_) | (with_reducible refine bSet (by first | omega | (simp <;> omega)) ?_) | (with_reducible refine bDrew ?_) | (with_reducible refine bDrewN ?_) | (with_reducible refine bTrans (by with_reducible assumption) (by first | omega | (simp <;> omega)) ?_)))).mono ?_); rintro e w1 ⟨rfl, hxb⟩; have hWn := AlW.next (by with_reducible assumption) hxb; obtain ⟨hxB, hxl0, hxq0, hxq1⟩ := id hWn; clear hxb) | (go_at_call 16; (with_reducible refine (hH _ (by (repeat' first | exact Below.refl _ _ | (with_reducible assumption) | (with_reducible refine bAlloc (by first | omega | (simp <;> omega)) ?_) | (with_reducible refine bSet (by first | omega | (simp <;> omega)) ?_) | (with_reducible refine bDrew ?_) | (with_reducible refine bDrewN ?_) | (with_reducible refine bTrans (by with_reducible assumption) (by first | omega | (simp <;> omega)) ?_)))).mono ?_); rintro e w1 ⟨rfl, hxb⟩; have hWn := AlW.next (by with_reducible assumption) hxb; obtain ⟨hxB, hxl0, hxq0, hxq1⟩ := id hWn; clear hxb))
    all_goals (go_ret; go_light; exact ⟨rfl, by (repeat' first | exact Below.refl _ _ | (with_reducible assumption) | (with_reducible refine bAlloc (by first | omega | (simp <;> omega)) ?_) | (with_reducible refine bSet (by first | omega | (simp <;> omega)) ?_) | (with_reducible refine bDrew ?_) | (with_reducible refine bDrewN ?_) | (with_reducible refine bTrans (by with_reducible assumption) (by first | omega | (simp <;> omega)) ?_))⟩)
  | false =>
    have hr := heavy_no r1 r2 hh
    simp only [hh] at hH
    clear hh hM hT r1 r2
    by_cases hq : -1000 ≤ f ∧ f ≤ 1049576 ∧ -1000 ≤ t ∧ t ≤ 1049576 ∧ t - f ≤ 2000
    · obtain ⟨q0, q1, q2, q3, q4⟩ := hq
      have h1 := fun f t w' (hb : Below w.heap.size w w') => betweenW x c f t w' (hr.next hb)
      have h2 := fun w' (hb : Below w.heap.size w w') => refBetweenW x c f t w' (hr.next hb)
      have h1a := h1 f t
      by_cases hm : f ≤ m ∧ m ≤ t
      · obtain ⟨m0, m1⟩ := hm
        have h1b := h1 f m
        have h1c := h1 m t
        rw [bet_add c m0 m1] at h1a h2
        have g1 := bet_range c f m
        have g2 := bet_range c m t
        clear h1 hr
        generalize betZ c f m = a at *
        generalize betZ c m t = b at *
        go_enter Tryd.func6, Tryd.ntmps6
        go_wp2_with (first | (go_at_call 10; (with_reducible refine (hA _ (by (repeat' first | exact Below.refl _ _ | (with_reducible assumption) | (with_reducible refine bAlloc (by first | omega | (simp <;> omega)) ?_) | (with_reducible refine bSet (by first | omega | (simp <;> omega)) ?_) | (with_reducible refine bDrew ?_) | (with_reducible refine bDrewN ?_) | (with_reducible refine bTrans (by with_reducible assumption) (by first | omega | (simp <;> omega)) ?_)))).mono ?_); rintro e w1 ⟨rfl, hxb⟩; have hWn := AlW.next (by with_reducible assumption) hxb; obtain ⟨hxB, hxl0, hxq0, hxq1⟩ := id hWn; clear hxb) | (go_at_call 16; (with_reducible refine (hH _ (by (repeat' first | exact Below.refl _ _ | (with_reducible assumption) | (with_reducible refine bAlloc (by first | omega | (simp <;> omega)) ?_) | (with_reducible refine bSet (by first | omega | (simp <;> omega)) ?_) | (with_reducible refine bDrew ?_) | (with_reducible refine bDrewN ?_) | (with_reducible refine bTrans (by with_reducible assumption) (by first | omega | (simp <;> omega)) ?_)))).mono ?_); rintro e w1 ⟨rfl, hxb⟩; have hWn := AlW.next (by with_reducible assumption) hxb; obtain ⟨hxB, hxl0, hxq0, hxq1⟩ := id hWn; clear hxb) | (go_at_call 26; (with_reducible refine (h1a _ (by (repeat' first | exact Below.refl _ _ | (with_reducible assumption) | (with_reducible refine bAlloc (by first | omega | (simp <;> omega)) ?_) | (with_reducible refine bSet (by first | omega | (simp <;> omega)) ?_) | (with_reducible refine bDrew ?_) | (with_reducible refine bDrewN ?_) | (with_reducible refine bTrans (by with_reducible assumption) (by first | omega | (simp <;> omega)) ?_)))).mono ?_); rintro e w1 ⟨rfl, hxb⟩; have hWn := AlW.next (by with_reducible assumption) hxb; obtain ⟨hxB, hxl0, hxq0, hxq1⟩ := id hWn; clear hxb) | (go_at_call 27; (with_reducible refine (h2 _ (by (repeat' first | exact Below.refl _ _ | (with_reducible assumption) | (with_reducible refine bAlloc (by first | omega | (simp <;> omega)) ?_) | (with_reducible refine bSet (by first | omega | (simp <;> omega)) ?_) | (with_reducible refine bDrew ?_) | (with_reducible refine bDrewN ?_) | (with_reducible refine bTrans (by with_reducible assumption) (by first | omega | (simp <;> omega)) ?_)))).mono ?_); rintro e w1 ⟨rfl, hxb⟩; have hWn := AlW.next (by with_reducible assumption) hxb; obtain ⟨hxB, hxl0, hxq0, hxq1⟩ := id hWn; clear hxb))
        have hW2 := AlW.drew hWn
        have hwr : IntKind.i64.wrap (a + b) = a + b := IntWalk.i64_in (a + b) (by omega)
        go_region_held3 (fun w' => w'.cell? ⟨w.heap.size, 0, none⟩ = some (.slice x.A1 x.n1 x.c1) ∧ w'.cell? ⟨w.heap.size, 1, none⟩ = some (.slice x.A2 x.n2 x.c2))
          (first | (go_keep; done))
          (first | (go_at_call 26; (with_reducible refine (h1b _ (by (repeat' first | exact Below.refl _ _ | (with_reducible assumption) | (with_reducible refine bAlloc (by first | omega | (simp <;> omega)) ?_) | (with_reducible refine bSet (by first | omega | (simp <;> omega)) ?_) | (with_reducible refine bDrew ?_) | (with_reducible refine bDrewN ?_) | (with_reducible refine bTrans (by with_reducible assumption) (by first | omega | (simp <;> omega)) ?_)))).mono ?_); rintro e w1 ⟨rfl, hxb⟩; have hWn := AlW.next (by with_reducible assumption) hxb; obtain ⟨hxB, hxl0, hxq0, hxq1⟩ := id hWn; clear hxb) | (go_at_call 26; (with_reducible refine (h1c _ (by (repeat' first | exact Below.refl _ _ | (with_reducible assumption) | (with_reducible refine bAlloc (by first | omega | (simp <;> omega)) ?_) | (with_reducible refine bSet (by first | omega | (simp <;> omega)) ?_) | (with_reducible refine bDrew ?_) | (with_reducible refine bDrewN ?_) | (with_reducible refine bTrans (by with_reducible assumption) (by first | omega | (simp <;> omega)) ?_)))).mono ?_); rintro e w1 ⟨rfl, hxb⟩; have hWn := AlW.next (by with_reducible assumption) hxb; obtain ⟨hxB, hxl0, hxq0, hxq1⟩ := id hWn; clear hxb))
        all_goals go_wp2_with fail
        all_goals (go_ret; go_light; exact ⟨rfl, by (repeat' first | exact Below.refl _ _ | (with_reducible assumption) | (with_reducible refine bAlloc (by first | omega | (simp <;> omega)) ?_) | (with_reducible refine bSet (by first | omega | (simp <;> omega)) ?_) | (with_reducible refine bDrew ?_) | (with_reducible refine bDrewN ?_) | (with_reducible refine bTrans (by with_reducible assumption) (by first | omega | (simp <;> omega)) ?_))⟩)
      · clear h1 hr
        generalize betZ c f t = a at *
        have hm' := Lib.hid hm
        clear hm
        go_enter Tryd.func6, Tryd.ntmps6
        go_wp2_with (first | (go_at_call 10; (with_reducible refine (hA _ (by (repeat' first | exact Below.refl _ _ | (with_reducible assumption) | (with_reducible refine bAlloc (by first | omega | (simp <;> omega)) ?_) | (with_reducible refine bSet (by first | omega | (simp <;> omega)) ?_) | (with_reducible refine bDrew ?_) | (with_reducible refine bDrewN ?_) | (with_reducible refine bTrans (by with_reducible assumption) (by first | omega | (simp <;> omega)) ?_)))).mono ?_); rintro e w1 ⟨rfl, hxb⟩; have hWn := AlW.next (by with_reducible assumption) hxb; obtain ⟨hxB, hxl0, hxq0, hxq1⟩ := id hWn; clear hxb) | (go_at_call 16; (with_reducible refine (hH _ (by (repeat' first | exact Below.refl _ _ | (with_reducible assumption) | (with_reducible refine bAlloc (by first | omega | (simp <;> omega)) ?_) | (with_reducible refine bSet (by first | omega | (simp <;> omega)) ?_) | (with_reducible refine bDrew ?_) | (with_reducible refine bDrewN ?_) | (with_reducible refine bTrans (by with_reducible assumption) (by first | omega | (simp <;> omega)) ?_)))).mono ?_); rintro e w1 ⟨rfl, hxb⟩; have hWn := AlW.next (by with_reducible assumption) hxb; obtain ⟨hxB, hxl0, hxq0, hxq1⟩ := id hWn; clear hxb) | (go_at_call 26; (with_reducible refine (h1a _ (by (repeat' first | exact Below.refl _ _ | (with_reducible assumption) | (with_reducible refine bAlloc (by first | omega | (simp <;> omega)) ?_) | (with_reducible refine bSet (by first | omega | (simp <;> omega)) ?_) | (with_reducible refine bDrew ?_) | (with_reducible refine bDrewN ?_) | (with_reducible refine bTrans (by with_reducible assumption) (by first | omega | (simp <;> omega)) ?_)))).mono ?_); rintro e w1 ⟨rfl, hxb⟩; have hWn := AlW.next (by with_reducible assumption) hxb; obtain ⟨hxB, hxl0, hxq0, hxq1⟩ := id hWn; clear hxb) | (go_at_call 27; (with_reducible refine (h2 _ (by (repeat' first | exact Below.refl _ _ | (with_reducible assumption) | (with_reducible refine bAlloc (by first | omega | (simp <;> omega)) ?_) | (with_reducible refine bSet (by first | omega | (simp <;> omega)) ?_) | (with_reducible refine bDrew ?_) | (with_reducible refine bDrewN ?_) | (with_reducible refine bTrans (by with_reducible assumption) (by first | omega | (simp <;> omega)) ?_)))).mono ?_); rintro e w1 ⟨rfl, hxb⟩; have hWn := AlW.next (by with_reducible assumption) hxb; obtain ⟨hxB, hxl0, hxq0, hxq1⟩ := id hWn; clear hxb))
        all_goals first
          | (go_ret; go_light; exact ⟨rfl, by (repeat' first | exact Below.refl _ _ | (with_reducible assumption) | (with_reducible refine bAlloc (by first | omega | (simp <;> omega)) ?_) | (with_reducible refine bSet (by first | omega | (simp <;> omega)) ?_) | (with_reducible refine bDrew ?_) | (with_reducible refine bDrewN ?_) | (with_reducible refine bTrans (by with_reducible assumption) (by first | omega | (simp <;> omega)) ?_))⟩)
          | (exfalso; have := hm'.out; omega)
    · have hq' := Lib.hid hq
      clear hq hr
      go_enter Tryd.func6, Tryd.ntmps6
      go_wp2_with (first | (go_at_call 10; (with_reducible refine (hA _ (by (repeat' first | exact Below.refl _ _ | (with_reducible assumption) | (with_reducible refine bAlloc (by first | omega | (simp <;> omega)) ?_) | (with_reducible refine bSet (by first | omega | (simp <;> omega)) ?_) | (with_reducible refine bDrew ?_) | (with_reducible refine bDrewN ?_) | (with_reducible refine bTrans (by with_reducible assumption) (by first | omega | (simp <;> omega)) ?_)))).mono ?_); rintro e w1 ⟨rfl, hxb⟩; have hWn := AlW.next (by with_reducible assumption) hxb; obtain ⟨hxB, hxl0, hxq0, hxq1⟩ := id hWn; clear hxb) | (go_at_call 16; (with_reducible refine (hH _ (by (repeat' first | exact Below.refl _ _ | (with_reducible assumption) | (with_reducible refine bAlloc (by first | omega | (simp <;> omega)) ?_) | (with_reducible refine bSet (by first | omega | (simp <;> omega)) ?_) | (with_reducible refine bDrew ?_) | (with_reducible refine bDrewN ?_) | (with_reducible refine bTrans (by with_reducible assumption) (by first | omega | (simp <;> omega)) ?_)))).mono ?_); rintro e w1 ⟨rfl, hxb⟩; have hWn := AlW.next (by with_reducible assumption) hxb; obtain ⟨hxB, hxl0, hxq0, hxq1⟩ := id hWn; clear hxb) | (exfalso; have := hq'.out; omega))
      all_goals first
        | (go_ret; go_light; exact ⟨rfl, by (repeat' first | exact Below.refl _ _ | (with_reducible assumption) | (with_reducible refine bAlloc (by first | omega | (simp <;> omega)) ?_) | (with_reducible refine bSet (by first | omega | (simp <;> omega)) ?_) | (with_reducible refine bDrew ?_) | (with_reducible refine bDrewN ?_) | (with_reducible refine bTrans (by with_reducible assumption) (by first | omega | (simp <;> omega)) ?_))⟩)
        | (exfalso; have := hq'.out; omega)
open Go.ChangeShapes Go.WideShapes Go.ChangeAt Go.Deep in
open Go.ChangeMaps (open_string) in
set_option maxRecDepth 100000 in
theorem dayBetween_lifted (os : Os) (started : os.Started) (H : Type) (enc : TypeId × Value → H) :
    ReturnsInHanded {} Tryd.checked os 6 .any (fun w args => (Rows.dayBetweenSpec.pre enc Tryd.prog Tryd.f6 [] false w args ∧ laidMetH Tryd.prog Rows.dayBetweenRow.laid w) ∧ sizedMet enc Tryd.prog Tryd.f6 (OpenSpec.ofChange Rows.dayBetweenSpec) false w args)
      (Rows.dayBetweenSpec.post enc Tryd.prog Tryd.f6 false true false false) := by
  refine returnsInHanded_of_change_and (C := Tryd.checked) (X := fun w _ => laidMetH Tryd.prog Rows.dayBetweenRow.laid w) (fun _ _ _ hh h => h.of_heap hh) own_ started (by kernel_rfl) Tryd.func6
    (ChangeSpec.witness_shaped (enc := enc) (C := Tryd.checked) (os := os) (X := fun w _ => laidMetH Tryd.prog Rows.dayBetweenRow.laid w) false (World.doorLaid Tryd.prog doorN os) #[.agg #[.slice none 0 0, .slice none 0 0], .int .i64 0, .int .i64 0, .int .i64 0] 8 rfl (World.shaped_of_RefB (by kernel_rfl) (by kernel_rfl)) (by kernel_rfl) (by kernel_rfl) (by kernel_rfl) (door_met os _)) ?_
  intro W base args ds gs before hval0 hW _ _ hL _
  have hval : ∀ (j : Nat) t v, Tryd.f6.params[j]? = some t → args[j]? = some v → Value.okWide Tryd.prog W .any base t v := hval0
  have hW' := hW
  have hT := tb_of hL
  obtain ⟨p, q, hA0, hV, rfl, hfz, hnd⟩ := hW
  have hA : DataW.TrodAll enc Tryd.prog W 0 (fun _ => true) true Tryd.f6.params.toList args.toList ds p := hA0
  rw [Tryd.params6] at hA hval
  obtain ⟨v0, v1, v2, v3, d0, d1, d2, d3, p0, p1, p2, p3, rfl, rfl, rfl, h0, h1, h2, h3⟩ := trodAll_four hA
  obtain ⟨rfl, rfl⟩ := trodVars_none hV
  (obtain ⟨x, c, rfl, r1, r2⟩ := open_cal (hval 0 31 v0 rfl rfl) h0; obtain ⟨f, rfl, -, -, -⟩ := open_int Tryd.underlying3 (hval 1 3 v1 rfl rfl) h1; obtain ⟨m, rfl, -, -, -⟩ := open_int Tryd.underlying3 (hval 2 3 v2 rfl rfl) h2; obtain ⟨t, rfl, -, -, -⟩ := open_int Tryd.underlying3 (hval 3 3 v3 rfl rfl) h3)
  refine (betweenLaw x c f m t W r1 r2 hT).mono fun e W' ⟨he, hb⟩ => ?_
  subst he
  exact ⟨_, rfl, law_post laidOut_ (by kernel_rfl) rfl Tryd.underlying4 rfl rfl hW' hb⟩

open Go.WideShapes Go.ChangeAt in
theorem dayBetween_said : Rows.DayBetweenSaid :=
  OpenClaim.holds_of_wide 6 Tryd.f6 rfl rfl rfl rfl rfl rfl rfl ⟨rfl, rfl, rfl, rfl, rfl⟩ rfl rfl rfl rfl rfl (by kernel_rfl) Tryd.func6 (by kernel_rfl)
    (of_decide_eq_true (by kernel_rfl)) (by unfold Func.isWrapper; first | (rw [if_pos (by decide +kernel)]; kernel_rfl) | (rw [if_neg (by decide +kernel)]; exact ⟨rfl, rfl⟩))
    (fun os started H enc _ => dayBetween_lifted os started H enc)
theorem dayBetween_card : Rows.DayBetweenCardSaid :=
  Claim7.holds_tied_plain_at .later [] _ _ _ _ dayBetween_said (fun _ h => by cases h) (by kernel_rfl) (fun _ h => by cases h) dayBetween_row_tie rfl ⟨rfl, rfl⟩ (by kernel_rfl) rfl (plain_ (by kernel_rfl) 6 Tryd.f6 (by kernel_rfl) Tryd.func6 (by kernel_rfl)) (by kernel_rfl)
#print axioms dayBetween_card
end Go.Proofs.YtpgldnjejnigiaaDoor
