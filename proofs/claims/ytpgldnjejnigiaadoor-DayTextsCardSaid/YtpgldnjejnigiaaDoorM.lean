/-
  Days: Tenor; the reference's.
-/
import Derived.Test.YtpgldnjejnigiaaDoorJ
namespace Go.Proofs.YtpgldnjejnigiaaDoor
open Go.RowKit

def optZ : Option Int → Int × Bool
  | some t => (t, true)
  | none => (0, false)
theorem ofZ_opt (y k o : Int) : (ofZ y k o = ((dayZ y k o).getD 0, true) ∧ (dayZ y k o).isSome = true) ∨ ((ofZ y k o).2 = false ∧ dayZ y k o = none) := by
  unfold ofZ dayZ
  cases ofOk y k o with
  | false => exact .inr ⟨rfl, rfl⟩
  | true =>
    cases isD (dayN y k.toNat o) with
    | false => exact .inr ⟨rfl, rfl⟩
    | true => exact .inl ⟨rfl, rfl⟩
theorem ten_no {d n : Int} (h : isD d = false ∨ n < -40000 ∨ 40000 < n) : tenZ d n = none := by
  unfold tenZ
  rw [if_neg]
  simp
  intro h1 h2
  rcases h with h | h | h
  · rw [h] at h1; cases h1
  · omega
  · omega
theorem ten_yes {d n : Int} (h : isD d = true) (h1 : -40000 ≤ n) (h2 : n ≤ 40000) : tenZ d n = monZ (atZ d n) ((ymd d).o + 1) := by
  unfold tenZ
  rw [if_pos]
  simp [h, h1, h2]
theorem monZ_no {a o : Int} (h : a < 24000) : monZ a o = none := by unfold monZ; rw [if_pos h]
theorem monZ_yes {a o : Int} (h : 24000 ≤ a) : monZ a o = dayZ (a / 12) (a % 12) (if o < monL (a / 12) (a % 12) then o else monL (a / 12) (a % 12)) := by unfold monZ; rw [if_neg (by omega)]
/-- the program takes no month ahead of the first -/
theorem ofZ_early {a o : Int} (h : a < 24000) : (ofZ (a / 12) (a % 12) o).2 = false := by
  unfold ofZ ofOk
  rw [show decide (2000 ≤ a / 12) = false by simp; omega]
  rfl
set_option maxHeartbeats 1000000 in
set_option maxRecDepth 100000 in
theorem tenorW (d n : Int) (w : World) (hT : Mt w) :
    Calls Tryd.prog 12 #[.int .i64 d, .int .i64 n] w fun e w' => e = .returned (.tuple #[.int .i64 (optZ (tenZ d n)).1, .bool (optZ (tenZ d n)).2]) ∧ w = w' := by
  have hI := fun w => isW d w
  cases hd : isD d with
  | false =>
    have he := Lib.hid (ten_no (n := n) (.inl hd))
    simp only [hd] at hI
    clear hd
    go_enter Tryd.func12, Tryd.ntmps12
    go_wp2_with (go_at_call 33; refine (hI _).mono ?_; rintro e w' ⟨rfl, rfl⟩)
    all_goals (go_ret2; rw [he.out]; exact ⟨rfl, rfl⟩)
  | true =>
    simp only [hd] at hI
    by_cases h1 : n < -40000
    · have he := Lib.hid (ten_no (d := d) (.inr (.inl h1)))
      clear hd
      go_enter Tryd.func12, Tryd.ntmps12
      go_wp2_with (go_at_call 33; refine (hI _).mono ?_; rintro e w' ⟨rfl, rfl⟩)
      all_goals (go_ret2; rw [he.out]; exact ⟨rfl, rfl⟩)
    · by_cases h2 : 40000 < n
      · have he := Lib.hid (ten_no (d := d) (.inr (.inr h2)))
        clear hd h1
        go_enter Tryd.func12, Tryd.ntmps12
        go_wp2_with (go_at_call 33; refine (hI _).mono ?_; rintro e w' ⟨rfl, rfl⟩)
        all_goals (go_ret2; rw [he.out]; exact ⟨rfl, rfl⟩)
      · have h1 : -40000 ≤ n := by omega
        have h2 : n ≤ 40000 := by omega
        have he := Lib.hid (ten_yes hd h1 h2)
        have hY := fun w h => monthWy d w hd h
        obtain ⟨a0, a1, a2, -, a3⟩ := ymd_spec hd
        have hmr := monL_range (2000 + (ymd d).n) (ymd d).m
        obtain ⟨a, ha⟩ : ∃ a, atZ d n = a := ⟨_, rfl⟩
        have hat : (2000 + ((ymd d).n : Int)) * 12 + ((ymd d).m + 1) - 1 + n = a := by rw [← ha]; unfold atZ; omega
        rw [ha] at he
        have hab : -20000 ≤ a ∧ a ≤ 100000 := by omega
        obtain ⟨b0, b1⟩ := hab
        clear hd ha
        have a4 : (ymd d).o ≤ 31 := by omega
        clear hmr a1
        generalize (ymd d).n = N at *
        generalize (ymd d).m = M at *
        generalize (ymd d).o = O at *
        by_cases hneg : a < 0
        · have he' := Lib.hid (show tenZ d n = none by rw [he.out]; exact monZ_no (by omega))
          clear he
          have HAT := Lib.hid hat
          have hneg' : (2000 + (N : Int)) * 12 + (M + 1) - 1 + n < 0 := by omega
          have hneg2 : (2000 + (N : Int)) * 12 + M + n < 0 := by omega
          clear hat
          go_enter Tryd.func12, Tryd.ntmps12
          go_wp2_with (first | (go_at_call 33; refine (hI _).mono ?_; rintro e w' ⟨rfl, rfl⟩) | (go_at_call 11; refine (hY _ hT).mono ?_; rintro e w' ⟨rfl, rfl⟩))
          all_goals (go_ret2; rw [he'.out]; exact ⟨rfl, rfl⟩)
        · have HAT := Lib.hid hat
          have hneg' : 0 ≤ (2000 + (N : Int)) * 12 + (M + 1) - 1 + n := by omega
          clear hat
          go_enter Tryd.func12, Tryd.ntmps12
          go_wp2_with (first | (go_at_call 33; refine (hI _).mono ?_; rintro e w' ⟨rfl, rfl⟩) | (go_at_call 11; refine (hY _ hT).mono ?_; rintro e w' ⟨rfl, rfl⟩))
          rw [HAT.out]
          clear hneg' HAT
          obtain ⟨q, hq⟩ : ∃ q, a / 12 = q := ⟨_, rfl⟩
          obtain ⟨r, hr⟩ : ∃ r : Nat, a % 12 = r := ⟨(a % 12).toNat, by omega⟩
          have hr12 : r < 12 := by omega
          have q0 : 0 ≤ q := by omega
          have q1 : q ≤ 100000 := by omega
          rw [hq, hr]
          have hM := fun w h => monthW q r w q0 q1 hr12 h
          have hMr := monL_range q r
          have hOf := fun o w (o0 : 0 ≤ o) (o1 : o ≤ 1000) h => ofW q r o w q0 q1 (by omega) (by omega) o0 o1 h
          have hfin : optZ (tenZ d n) = if (ofZ q r (if O + 1 < monL q r then O + 1 else monL q r)).2 then ((ofZ q r (if O + 1 < monL q r then O + 1 else monL q r)).1, true) else (0, false) := by
            rw [he.out]
            by_cases h24 : a < 24000
            · rw [monZ_no h24]
              have := ofZ_early (o := if O + 1 < monL q r then O + 1 else monL q r) h24
              rw [hq, hr] at this
              rw [this]
              rfl
            · rw [monZ_yes (by omega), hq, hr]
              rcases ofZ_opt q r (if O + 1 < monL q r then O + 1 else monL q r) with ⟨e1, e2⟩ | ⟨e1, e2⟩
              · rw [e1]
                obtain ⟨t, ht⟩ := Option.isSome_iff_exists.1 e2
                rw [ht]
                rfl
              · rw [e2, e1]
                rfl
          rw [show (if O + 1 < monL q r then O + 1 else monL q r) = (if monL q r < O + 1 then monL q r else O + 1) by split <;> split <;> omega] at hfin
          have HF := Lib.hid hfin
          clear hfin he hq hr
          generalize monL q r = L at *
          obtain ⟨l0, l1⟩ := hMr
          have hOf1 := fun w h => hOf (O + 1) w (by omega) (by omega) h
          have hOf2 := fun w h => hOf L w (by omega) (by omega) h
          clear hOf
          by_cases hlt : L < O + 1
          · rw [if_pos hlt] at HF
            clear hOf1
            generalize ofZ q r L = Z at *
            obtain ⟨z1, z2⟩ := Z
            cases z2
            all_goals
              go_wp2_with (first | (go_at_call 35; refine (hM _ hT).mono ?_; rintro e w' ⟨rfl, rfl⟩) | (go_at_call 36; refine (hOf2 _ hT).mono ?_; rintro e w' ⟨rfl, rfl⟩))
              go_ret2
              rw [HF.out]
              exact ⟨rfl, rfl⟩
          · rw [if_neg hlt] at HF
            clear hOf2
            have hle : O + 1 ≤ L := by omega
            generalize ofZ q r (O + 1) = Z at *
            obtain ⟨z1, z2⟩ := Z
            cases z2
            all_goals
              go_wp2_with (first | (go_at_call 35; refine (hM _ hT).mono ?_; rintro e w' ⟨rfl, rfl⟩) | (go_at_call 36; refine (hOf1 _ hT).mono ?_; rintro e w' ⟨rfl, rfl⟩))
              go_ret2
              rw [HF.out]
              exact ⟨rfl, rfl⟩
set_option maxHeartbeats 1000000 in
set_option maxRecDepth 100000 in
theorem refTenorW (d n : Int) (w : World) :
    Calls Tryd.prog 13 #[.int .i64 d, .int .i64 n] w fun e w' => e = .returned (.tuple #[.int .i64 (optZ (tenZ d n)).1, .bool (optZ (tenZ d n)).2]) ∧ w = w' := by
  have hI := fun w => refIsW d w
  cases hd : isD d with
  | false =>
    have he := Lib.hid (ten_no (n := n) (.inl hd))
    simp only [hd] at hI
    clear hd
    go_enter Tryd.func13, Tryd.ntmps13
    go_wp2_with (go_at_call 14; refine (hI _).mono ?_; rintro e w' ⟨rfl, rfl⟩)
    all_goals (go_ret2; rw [he.out]; exact ⟨rfl, rfl⟩)
  | true =>
    simp only [hd] at hI
    by_cases h1 : n < -40000
    · have he := Lib.hid (ten_no (d := d) (.inr (.inl h1)))
      clear hd
      go_enter Tryd.func13, Tryd.ntmps13
      go_wp2_with (go_at_call 14; refine (hI _).mono ?_; rintro e w' ⟨rfl, rfl⟩)
      all_goals (go_ret2; rw [he.out]; exact ⟨rfl, rfl⟩)
    · by_cases h2 : 40000 < n
      · have he := Lib.hid (ten_no (d := d) (.inr (.inr h2)))
        clear hd h1
        go_enter Tryd.func13, Tryd.ntmps13
        go_wp2_with (go_at_call 14; refine (hI _).mono ?_; rintro e w' ⟨rfl, rfl⟩)
        all_goals (go_ret2; rw [he.out]; exact ⟨rfl, rfl⟩)
      · have h1 : -40000 ≤ n := by omega
        have h2 : n ≤ 40000 := by omega
        have he := Lib.hid (ten_yes hd h1 h2)
        have hY := fun w => refMonthW d w hd
        obtain ⟨a0, a1, a2, -, a3⟩ := ymd_spec hd
        have hmr := monL_range (2000 + (ymd d).n) (ymd d).m
        obtain ⟨a, ha⟩ : ∃ a, atZ d n = a := ⟨_, rfl⟩
        have hat : (2000 + ((ymd d).n : Int)) * 12 + ((ymd d).m + 1) - 1 + n = a := by rw [← ha]; unfold atZ; omega
        rw [ha] at he
        have hab : -20000 ≤ a ∧ a ≤ 100000 := by omega
        obtain ⟨b0, b1⟩ := hab
        clear hd ha
        have a4 : (ymd d).o ≤ 31 := by omega
        clear hmr a1
        generalize (ymd d).n = N at *
        generalize (ymd d).m = M at *
        generalize (ymd d).o = O at *
        by_cases hneg : a < 24000
        · have he' := Lib.hid (show tenZ d n = none by rw [he.out]; exact monZ_no (by omega))
          clear he
          have HAT := Lib.hid hat
          have hneg' : 12 * (2000 + (N : Int)) + (M + 1) - 1 + n < 24000 := by omega
          clear hat
          go_enter Tryd.func13, Tryd.ntmps13
          go_wp2_with (first | (go_at_call 14; refine (hI _).mono ?_; rintro e w' ⟨rfl, rfl⟩) | (go_at_call 15; refine (hY _).mono ?_; rintro e w' ⟨rfl, rfl⟩))
          all_goals (go_ret2; rw [he'.out]; exact ⟨rfl, rfl⟩)
        · by_cases hbig : 60000 < a
          · have he' := Lib.hid (show tenZ d n = none by
              rw [he.out, monZ_yes (by omega)]
              unfold dayZ
              by_cases hof : ofOk (a / 12) (a % 12) (if O + 1 < monL (a / 12) (a % 12) then O + 1 else monL (a / 12) (a % 12)) = true
              · have hml := monL_range (a / 12) (a % 12)
                rw [dayN_far _ (by omega) (by split <;> omega), if_neg (by simp)]
              · rw [if_neg (by simp [hof])])
            clear he
            have HAT := Lib.hid hat
            have hneg' : 60000 < 12 * (2000 + (N : Int)) + (M + 1) - 1 + n := by omega
            have hneg3 : 24000 ≤ 12 * (2000 + (N : Int)) + (M + 1) - 1 + n := by omega
            clear hat
            go_enter Tryd.func13, Tryd.ntmps13
            go_wp2_with (first | (go_at_call 14; refine (hI _).mono ?_; rintro e w' ⟨rfl, rfl⟩) | (go_at_call 15; refine (hY _).mono ?_; rintro e w' ⟨rfl, rfl⟩))
            all_goals (go_ret2; rw [he'.out]; exact ⟨rfl, rfl⟩)
          · have HAT := Lib.hid hat
            have hneg' : 24000 ≤ 12 * (2000 + (N : Int)) + (M + 1) - 1 + n := by omega
            have hneg2 : 12 * (2000 + (N : Int)) + (M + 1) - 1 + n ≤ 60000 := by omega
            have HAT2 := Lib.hid (show 12 * (2000 + (N : Int)) + (M + 1) - 1 + n = a by omega)
            clear hat
            go_enter Tryd.func13, Tryd.ntmps13
            go_wp2_with (first | (go_at_call 14; refine (hI _).mono ?_; rintro e w' ⟨rfl, rfl⟩) | (go_at_call 15; refine (hY _).mono ?_; rintro e w' ⟨rfl, rfl⟩))
            all_goals try (exfalso; omega)
            rw [HAT2.out]
            clear hneg' HAT hneg2 HAT2
            obtain ⟨q, hq⟩ : ∃ q, a / 12 = q := ⟨_, rfl⟩
            obtain ⟨r, hr⟩ : ∃ r : Nat, a % 12 = r := ⟨(a % 12).toNat, by omega⟩
            have hr12 : r < 12 := by omega
            have q0 : 0 ≤ q := by omega
            have q1 : q ≤ 5000 := by omega
            rw [hq, hr]
            have hM := fun w => refDaysW q r w q0 (by omega) hr12 _ rfl
            have hMr := monL_range q r
            have hOf := fun o w (o0 : 0 ≤ o) (o1 : o ≤ 1000) => refDayW q r o _ w q0 (by omega) (by omega) (by omega) o0 o1 rfl
            have hrf : ∀ o, rfZ q r o = ofZ q r o := fun o => by unfold rfZ; rw [if_neg (by omega)]
            have hfin : optZ (tenZ d n) = if (ofZ q r (if O + 1 < monL q r then O + 1 else monL q r)).2 then ((ofZ q r (if O + 1 < monL q r then O + 1 else monL q r)).1, true) else (0, false) := by
              rw [he.out, monZ_yes (by omega), hq, hr]
              rcases ofZ_opt q r (if O + 1 < monL q r then O + 1 else monL q r) with ⟨e1, e2⟩ | ⟨e1, e2⟩
              · rw [e1]
                obtain ⟨t, ht⟩ := Option.isSome_iff_exists.1 e2
                rw [ht]
                rfl
              · rw [e2, e1]
                rfl
            rw [show (if O + 1 < monL q r then O + 1 else monL q r) = (if monL q r < O + 1 then monL q r else O + 1) by split <;> split <;> omega] at hfin
            have HF := Lib.hid hfin
            simp only [hrf] at hOf
            clear hfin he hq hr hrf
            generalize monL q r = L at *
            obtain ⟨l0, l1⟩ := hMr
            have hOf1 := fun w => hOf (O + 1) w (by omega) (by omega)
            have hOf2 := fun w => hOf L w (by omega) (by omega)
            clear hOf
            by_cases hlt : L < O + 1
            · rw [if_pos hlt] at HF
              clear hOf1
              generalize ofZ q r L = Z at *
              obtain ⟨z1, z2⟩ := Z
              cases z2
              all_goals
                go_wp2_with (first | (go_at_call 37; refine (hM _).mono ?_; rintro e w' ⟨rfl, rfl⟩) | (go_at_call 38; refine (hOf2 _).mono ?_; rintro e w' ⟨rfl, rfl⟩))
                go_ret2
                rw [HF.out]
                exact ⟨rfl, rfl⟩
            · rw [if_neg hlt] at HF
              clear hOf2
              have hle : O + 1 ≤ L := by omega
              generalize ofZ q r (O + 1) = Z at *
              obtain ⟨z1, z2⟩ := Z
              cases z2
              all_goals
                go_wp2_with (first | (go_at_call 37; refine (hM _).mono ?_; rintro e w' ⟨rfl, rfl⟩) | (go_at_call 38; refine (hOf1 _).mono ?_; rintro e w' ⟨rfl, rfl⟩))
                go_ret2
                rw [HF.out]
                exact ⟨rfl, rfl⟩
end Go.Proofs.YtpgldnjejnigiaaDoor
