/-
  Money: the reference's Scale, walked.
-/
import Derived.Test.YtgnmjopifdekiaaDoorI
namespace Go.Proofs.YtgnmjopifdekiaaDoor
set_option linter.unusedVariables false
set_option linter.unusedSimpArgs false
open Go.RowKit

set_option maxHeartbeats 4000000 in
set_option maxRecDepth 100000 in
theorem refScaleW (c : ByteArray) (a num den way : Int) (w : World) (m1 : num ≤ 9223372036854775807) (d1 : den ≤ 9223372036854775807) :
    Calls Tryd.prog 12 #[mv c a, rv num den, .int .i64 way] w fun e w' => e = .returned (resM c (scaleZ c a num den way)) ∧ Below w.heap.size w w' := by
  have hM := fun w => refMayW c a w
  have hF := fun w => refRightW num den w
  cases hm : mayM c a with
  | false =>
    have he := Lib.hid (show scaleZ c a num den way = none from scaleZ_may (.inl hm))
    simp only [hm] at hM
    clear hm
    go_enter Tryd.func12, Tryd.ntmps12
    go_wp2_with (first | (go_at_call 14; (with_reducible refine (hM _).mono ?_); rintro e w1 ⟨rfl, hxb⟩; (have hWn : Bz w w1 c a num den := Bz.next (by first | (with_reducible assumption) | exact Bz.new _ _ _ | exact Bz.out (by with_reducible assumption) _) hxb); obtain ⟨hxc, hxf⟩ := bcell hxb; clear hxb hxf; obtain ⟨hxB, hxl2, hxq0, hxq1, hxq2, hxq3, hxq4, hxq5, hxf0, hxf1⟩ := id hWn; (have hxl0 : w.heap.size < w1.heap.size := (by omega)); (have hxl1 : w.heap.size + 1 < w1.heap.size := (by omega))) | (go_at_call 14; (with_reducible refine (hMB _).mono ?_); rintro e w1 ⟨rfl, hxb⟩; (have hWn : Bz w w1 c a num den := Bz.next (by first | (with_reducible assumption) | exact Bz.new _ _ _ | exact Bz.out (by with_reducible assumption) _) hxb); obtain ⟨hxc, hxf⟩ := bcell hxb; clear hxb hxf; obtain ⟨hxB, hxl2, hxq0, hxq1, hxq2, hxq3, hxq4, hxq5, hxf0, hxf1⟩ := id hWn; (have hxl0 : w.heap.size < w1.heap.size := (by omega)); (have hxl1 : w.heap.size + 1 < w1.heap.size := (by omega))) | (go_at_call 32; (with_reducible refine (hF _).mono ?_); rintro e w1 ⟨rfl, hxb⟩; (have hWn : Bz w w1 c a num den := Bz.next (by first | (with_reducible assumption) | exact Bz.new _ _ _ | exact Bz.out (by with_reducible assumption) _) hxb); obtain ⟨hxc, hxf⟩ := bcell hxb; clear hxb hxf; obtain ⟨hxB, hxl2, hxq0, hxq1, hxq2, hxq3, hxq4, hxq5, hxf0, hxf1⟩ := id hWn; (have hxl0 : w.heap.size < w1.heap.size := (by omega)); (have hxl1 : w.heap.size + 1 < w1.heap.size := (by omega))) | (go_at_call 33; (with_reducible refine (hP _).mono ?_); rintro e w' ⟨rfl, rfl⟩))
    all_goals (refine bodyPost_ret (v := .tuple #[mv ⟨#[]⟩ 0, .bool false]) (by simp [results, Tryd.results12, go_sem, hxq4, hxq5]) rfl ⟨by rw [he.out]; rfl, by (repeat' first | exact Below.refl _ _ | (with_reducible assumption) | (with_reducible refine bAlloc (by first | omega | (simp <;> omega)) ?_) | (with_reducible refine bSet (by first | omega | (simp <;> omega)) ?_) | (with_reducible refine bDrew ?_) | (with_reducible refine bDrewN ?_) | (with_reducible refine bTrans (by with_reducible assumption) (by first | omega | (simp <;> omega)) ?_))⟩)
  | true =>
  cases hf : fracB num den with
  | false =>
    have he := Lib.hid (show scaleZ c a num den way = none from scaleZ_may (.inr (.inl hf)))
    simp only [hf] at hF
    simp only [hm] at hM
    clear hm hf
    go_enter Tryd.func12, Tryd.ntmps12
    go_wp2_with (first | (go_at_call 14; (with_reducible refine (hM _).mono ?_); rintro e w1 ⟨rfl, hxb⟩; (have hWn : Bz w w1 c a num den := Bz.next (by first | (with_reducible assumption) | exact Bz.new _ _ _ | exact Bz.out (by with_reducible assumption) _) hxb); obtain ⟨hxc, hxf⟩ := bcell hxb; clear hxb hxf; obtain ⟨hxB, hxl2, hxq0, hxq1, hxq2, hxq3, hxq4, hxq5, hxf0, hxf1⟩ := id hWn; (have hxl0 : w.heap.size < w1.heap.size := (by omega)); (have hxl1 : w.heap.size + 1 < w1.heap.size := (by omega))) | (go_at_call 14; (with_reducible refine (hMB _).mono ?_); rintro e w1 ⟨rfl, hxb⟩; (have hWn : Bz w w1 c a num den := Bz.next (by first | (with_reducible assumption) | exact Bz.new _ _ _ | exact Bz.out (by with_reducible assumption) _) hxb); obtain ⟨hxc, hxf⟩ := bcell hxb; clear hxb hxf; obtain ⟨hxB, hxl2, hxq0, hxq1, hxq2, hxq3, hxq4, hxq5, hxf0, hxf1⟩ := id hWn; (have hxl0 : w.heap.size < w1.heap.size := (by omega)); (have hxl1 : w.heap.size + 1 < w1.heap.size := (by omega))) | (go_at_call 32; (with_reducible refine (hF _).mono ?_); rintro e w1 ⟨rfl, hxb⟩; (have hWn : Bz w w1 c a num den := Bz.next (by first | (with_reducible assumption) | exact Bz.new _ _ _ | exact Bz.out (by with_reducible assumption) _) hxb); obtain ⟨hxc, hxf⟩ := bcell hxb; clear hxb hxf; obtain ⟨hxB, hxl2, hxq0, hxq1, hxq2, hxq3, hxq4, hxq5, hxf0, hxf1⟩ := id hWn; (have hxl0 : w.heap.size < w1.heap.size := (by omega)); (have hxl1 : w.heap.size + 1 < w1.heap.size := (by omega))) | (go_at_call 33; (with_reducible refine (hP _).mono ?_); rintro e w' ⟨rfl, rfl⟩))
    all_goals (refine bodyPost_ret (v := .tuple #[mv ⟨#[]⟩ 0, .bool false]) (by simp [results, Tryd.results12, go_sem, hxq4, hxq5]) rfl ⟨by rw [he.out]; rfl, by (repeat' first | exact Below.refl _ _ | (with_reducible assumption) | (with_reducible refine bAlloc (by first | omega | (simp <;> omega)) ?_) | (with_reducible refine bSet (by first | omega | (simp <;> omega)) ?_) | (with_reducible refine bDrew ?_) | (with_reducible refine bDrewN ?_) | (with_reducible refine bTrans (by with_reducible assumption) (by first | omega | (simp <;> omega)) ?_))⟩)
  | true =>
  by_cases hway : way < 0 ∨ 2 < way
  · have he := Lib.hid (show scaleZ c a num den way = none from scaleZ_may (.inr (.inr hway)))
    simp only [hf] at hF
    simp only [hm] at hM
    clear hm hf
    rcases hway with hway | hway
    · go_enter Tryd.func12, Tryd.ntmps12
      go_wp2_with (first | (go_at_call 14; (with_reducible refine (hM _).mono ?_); rintro e w1 ⟨rfl, hxb⟩; (have hWn : Bz w w1 c a num den := Bz.next (by first | (with_reducible assumption) | exact Bz.new _ _ _ | exact Bz.out (by with_reducible assumption) _) hxb); obtain ⟨hxc, hxf⟩ := bcell hxb; clear hxb hxf; obtain ⟨hxB, hxl2, hxq0, hxq1, hxq2, hxq3, hxq4, hxq5, hxf0, hxf1⟩ := id hWn; (have hxl0 : w.heap.size < w1.heap.size := (by omega)); (have hxl1 : w.heap.size + 1 < w1.heap.size := (by omega))) | (go_at_call 14; (with_reducible refine (hMB _).mono ?_); rintro e w1 ⟨rfl, hxb⟩; (have hWn : Bz w w1 c a num den := Bz.next (by first | (with_reducible assumption) | exact Bz.new _ _ _ | exact Bz.out (by with_reducible assumption) _) hxb); obtain ⟨hxc, hxf⟩ := bcell hxb; clear hxb hxf; obtain ⟨hxB, hxl2, hxq0, hxq1, hxq2, hxq3, hxq4, hxq5, hxf0, hxf1⟩ := id hWn; (have hxl0 : w.heap.size < w1.heap.size := (by omega)); (have hxl1 : w.heap.size + 1 < w1.heap.size := (by omega))) | (go_at_call 32; (with_reducible refine (hF _).mono ?_); rintro e w1 ⟨rfl, hxb⟩; (have hWn : Bz w w1 c a num den := Bz.next (by first | (with_reducible assumption) | exact Bz.new _ _ _ | exact Bz.out (by with_reducible assumption) _) hxb); obtain ⟨hxc, hxf⟩ := bcell hxb; clear hxb hxf; obtain ⟨hxB, hxl2, hxq0, hxq1, hxq2, hxq3, hxq4, hxq5, hxf0, hxf1⟩ := id hWn; (have hxl0 : w.heap.size < w1.heap.size := (by omega)); (have hxl1 : w.heap.size + 1 < w1.heap.size := (by omega))) | (go_at_call 33; (with_reducible refine (hP _).mono ?_); rintro e w' ⟨rfl, rfl⟩))
      all_goals (refine bodyPost_ret (v := .tuple #[mv ⟨#[]⟩ 0, .bool false]) (by simp [results, Tryd.results12, go_sem, hxq4, hxq5]) rfl ⟨by rw [he.out]; rfl, by (repeat' first | exact Below.refl _ _ | (with_reducible assumption) | (with_reducible refine bAlloc (by first | omega | (simp <;> omega)) ?_) | (with_reducible refine bSet (by first | omega | (simp <;> omega)) ?_) | (with_reducible refine bDrew ?_) | (with_reducible refine bDrewN ?_) | (with_reducible refine bTrans (by with_reducible assumption) (by first | omega | (simp <;> omega)) ?_))⟩)
    · have hw0 : decide (way < 0) = false := by simp; omega
      go_enter Tryd.func12, Tryd.ntmps12
      go_wp2_with (first | (go_at_call 14; (with_reducible refine (hM _).mono ?_); rintro e w1 ⟨rfl, hxb⟩; (have hWn : Bz w w1 c a num den := Bz.next (by first | (with_reducible assumption) | exact Bz.new _ _ _ | exact Bz.out (by with_reducible assumption) _) hxb); obtain ⟨hxc, hxf⟩ := bcell hxb; clear hxb hxf; obtain ⟨hxB, hxl2, hxq0, hxq1, hxq2, hxq3, hxq4, hxq5, hxf0, hxf1⟩ := id hWn; (have hxl0 : w.heap.size < w1.heap.size := (by omega)); (have hxl1 : w.heap.size + 1 < w1.heap.size := (by omega))) | (go_at_call 14; (with_reducible refine (hMB _).mono ?_); rintro e w1 ⟨rfl, hxb⟩; (have hWn : Bz w w1 c a num den := Bz.next (by first | (with_reducible assumption) | exact Bz.new _ _ _ | exact Bz.out (by with_reducible assumption) _) hxb); obtain ⟨hxc, hxf⟩ := bcell hxb; clear hxb hxf; obtain ⟨hxB, hxl2, hxq0, hxq1, hxq2, hxq3, hxq4, hxq5, hxf0, hxf1⟩ := id hWn; (have hxl0 : w.heap.size < w1.heap.size := (by omega)); (have hxl1 : w.heap.size + 1 < w1.heap.size := (by omega))) | (go_at_call 32; (with_reducible refine (hF _).mono ?_); rintro e w1 ⟨rfl, hxb⟩; (have hWn : Bz w w1 c a num den := Bz.next (by first | (with_reducible assumption) | exact Bz.new _ _ _ | exact Bz.out (by with_reducible assumption) _) hxb); obtain ⟨hxc, hxf⟩ := bcell hxb; clear hxb hxf; obtain ⟨hxB, hxl2, hxq0, hxq1, hxq2, hxq3, hxq4, hxq5, hxf0, hxf1⟩ := id hWn; (have hxl0 : w.heap.size < w1.heap.size := (by omega)); (have hxl1 : w.heap.size + 1 < w1.heap.size := (by omega))) | (go_at_call 33; (with_reducible refine (hP _).mono ?_); rintro e w' ⟨rfl, rfl⟩))
      all_goals (refine bodyPost_ret (v := .tuple #[mv ⟨#[]⟩ 0, .bool false]) (by simp [results, Tryd.results12, go_sem, hxq4, hxq5]) rfl ⟨by rw [he.out]; rfl, by (repeat' first | exact Below.refl _ _ | (with_reducible assumption) | (with_reducible refine bAlloc (by first | omega | (simp <;> omega)) ?_) | (with_reducible refine bSet (by first | omega | (simp <;> omega)) ?_) | (with_reducible refine bDrew ?_) | (with_reducible refine bDrewN ?_) | (with_reducible refine bTrans (by with_reducible assumption) (by first | omega | (simp <;> omega)) ?_))⟩)
  obtain ⟨m0, d0⟩ := fracB_iff.1 hf
  obtain ⟨s, A, p, hs, hsa, hp, hA, A0, A1, p0, p1, s0, s1, hs0, hsg⟩ := scale_facts hm m0 m1
  have hP := fun w => partsW A num den A0 A1 m0 m1 d0 d1 w
  have hsc : scQ (absI a) num den way = p / den + if upB way (p % den) den then 1 else 0 := by unfold scQ; rw [hA, hp]
  have hbg := fun h => scaleZ_big (c := c) (a := a) (num := num) (den := den) (way := way) h
  have hok := fun h => scaleZ_ok (way := way) hm hf (by omega) (by omega) h
  have hms := fun N h0 h => may_sgn (N := N) hm h0 h
  have hPQ : partQ A num den = if 2199023255552 < p / den then -1 else p / den := by unfold partQ; rw [hp]
  have hPR : partR A num den = if 2199023255552 < p / den then 0 else p % den := by unfold partR; rw [hp]
  rw [hsc] at hbg hok
  rw [hPQ, hPR] at hP
  simp only [hm] at hM
  simp only [hf] at hF
  obtain ⟨a0, a1⟩ := (mayM_iff.1 hm).2
  have R0 := Int.emod_nonneg p (show den ≠ 0 by omega)
  have R1 := Int.emod_lt_of_pos p (show 0 < den by omega)
  have N0 := Int.ediv_nonneg p0 (show 0 ≤ den by omega)
  have hz : s = 0 → p / den = 0 ∧ p % den = 0 := fun h => by rw [hs0 h, Int.zero_ediv, Int.zero_emod]; exact ⟨rfl, rfl⟩
  have ha0 : a = 0 → s = 0 := fun h => by rw [← hs, h]; rfl
  obtain ⟨N, hN⟩ : ∃ N, p / den = N := ⟨_, rfl⟩
  obtain ⟨R, hR⟩ : ∃ R, p % den = R := ⟨_, rfl⟩
  simp only [hN, hR] at hP R0 R1 N0 hz hbg hok
  clear hs hp hsc hs0 p0 p1 hm hf hN hR hsa s0 s1 hsg hPQ hPR
  have HMS := Lib.hid hms
  have HOK := Lib.hid hok
  have HBG := Lib.hid hbg
  have HZ := Lib.hid hz
  have HA0 := Lib.hid ha0
  clear hms hok hbg hz ha0
  have hAA : (a < 0 ∧ -a = A) ∨ (0 ≤ a ∧ a = A) := by
    rw [← hA]
    unfold absI
    split <;> omega
  clear hA
  have hw0 : decide (way < 0) = false := by simp; omega
  by_cases hbn : 2199023255552 < N
  · have he := Lib.hid (HBG.out (by split <;> omega))
    simp only [if_pos hbn] at hP
    rcases hAA with ⟨h1, h2⟩ | ⟨h1, rfl⟩
    all_goals
      go_enter Tryd.func12, Tryd.ntmps12
      go_wp2_with (first | (go_at_call 14; (with_reducible refine (hM _).mono ?_); rintro e w1 ⟨rfl, hxb⟩; (have hWn : Bz w w1 c a num den := Bz.next (by first | (with_reducible assumption) | exact Bz.new _ _ _ | exact Bz.out (by with_reducible assumption) _) hxb); obtain ⟨hxc, hxf⟩ := bcell hxb; clear hxb hxf; obtain ⟨hxB, hxl2, hxq0, hxq1, hxq2, hxq3, hxq4, hxq5, hxf0, hxf1⟩ := id hWn; (have hxl0 : w.heap.size < w1.heap.size := (by omega)); (have hxl1 : w.heap.size + 1 < w1.heap.size := (by omega))) | (go_at_call 14; (with_reducible refine (hMB _).mono ?_); rintro e w1 ⟨rfl, hxb⟩; (have hWn : Bz w w1 c a num den := Bz.next (by first | (with_reducible assumption) | exact Bz.new _ _ _ | exact Bz.out (by with_reducible assumption) _) hxb); obtain ⟨hxc, hxf⟩ := bcell hxb; clear hxb hxf; obtain ⟨hxB, hxl2, hxq0, hxq1, hxq2, hxq3, hxq4, hxq5, hxf0, hxf1⟩ := id hWn; (have hxl0 : w.heap.size < w1.heap.size := (by omega)); (have hxl1 : w.heap.size + 1 < w1.heap.size := (by omega))) | (go_at_call 32; (with_reducible refine (hF _).mono ?_); rintro e w1 ⟨rfl, hxb⟩; (have hWn : Bz w w1 c a num den := Bz.next (by first | (with_reducible assumption) | exact Bz.new _ _ _ | exact Bz.out (by with_reducible assumption) _) hxb); obtain ⟨hxc, hxf⟩ := bcell hxb; clear hxb hxf; obtain ⟨hxB, hxl2, hxq0, hxq1, hxq2, hxq3, hxq4, hxq5, hxf0, hxf1⟩ := id hWn; (have hxl0 : w.heap.size < w1.heap.size := (by omega)); (have hxl1 : w.heap.size + 1 < w1.heap.size := (by omega))) | (go_at_call 33; (with_reducible refine (hP _).mono ?_); rintro e w' ⟨rfl, rfl⟩))
      all_goals (refine bodyPost_ret (v := .tuple #[mv ⟨#[]⟩ 0, .bool false]) (by simp [results, Tryd.results12, go_sem, hxq4, hxq5]) rfl ⟨by rw [he.out]; rfl, by (repeat' first | exact Below.refl _ _ | (with_reducible assumption) | (with_reducible refine bAlloc (by first | omega | (simp <;> omega)) ?_) | (with_reducible refine bSet (by first | omega | (simp <;> omega)) ?_) | (with_reducible refine bDrew ?_) | (with_reducible refine bDrewN ?_) | (with_reducible refine bTrans (by with_reducible assumption) (by first | omega | (simp <;> omega)) ?_))⟩)
  simp only [if_neg hbn] at hP
  obtain ⟨u, hu⟩ : ∃ u, upB way R den = u := ⟨_, rfl⟩
  rw [hu] at HBG HOK
  have hNN : (a = 0 → N + (if u then 1 else 0) = 0) := fun h => by
    obtain ⟨z1, z2⟩ := HZ.out (HA0.out h)
    have : u = false := by
      rw [← hu]
      unfold upB
      simp
      omega
    rw [z1, this]; rfl
  have hmb := HMS.out (N + (if u then 1 else 0)) (by split <;> omega) hNN
  clear HMS HZ HA0 hNN
  obtain ⟨N1, hN1⟩ : ∃ N1, N + (if u then 1 else 0) = N1 := ⟨_, rfl⟩
  have hNr : N ≤ N1 ∧ N1 ≤ N + 1 := by rw [← hN1]; split <;> omega
  rw [hN1] at hmb HBG HOK
  obtain ⟨B, hB⟩ : ∃ B, sgn a N1 = B := ⟨_, rfl⟩
  have hMB := fun w => refMayW c B w
  rw [hB] at hmb HOK
  rw [hmb] at hMB
  have hBB : (a < 0 ∧ -N1 = B) ∨ (0 ≤ a ∧ N1 = B) := by
    rw [← hB]
    unfold sgn
    split <;> omega
  obtain ⟨hN2, hN3⟩ := hNr
  clear hmb hB
  have hcond : (way = 0 ∧ u = false) ∨ (way = 1 ∧ u = false ∧ R ≤ 0) ∨ (way = 1 ∧ u = true ∧ 0 < R) ∨ (way = 2 ∧ u = false ∧ R < den - R) ∨ (way = 2 ∧ u = true ∧ den - R ≤ R) := by
    rw [← hu]
    unfold upB
    rcases (by omega : way = 0 ∨ way = 1 ∨ way = 2) with rfl | rfl | rfl
    · left; simp
    · simp; omega
    · simp; omega
  clear hu
  by_cases hbb : 1099511627776 < N1
  · have he := Lib.hid (HBG.out hbb)
    rw [show decide (N1 ≤ 1099511627776) = false from decide_eq_false (by omega)] at hMB
    clear HOK HBG
    rcases hcond with ⟨rfl, rfl⟩ | ⟨rfl, rfl, hr⟩ | ⟨rfl, rfl, hr⟩ | ⟨rfl, rfl, hr⟩ | ⟨rfl, rfl, hr⟩
    all_goals
      simp only [Bool.false_eq_true, if_false, if_true, Int.add_zero] at hN1
      try (obtain rfl : N = N1 := hN1)
      rcases hAA with ⟨h1, h2⟩ | ⟨h1, rfl⟩ <;> rcases hBB with ⟨h3, h4⟩ | ⟨h3, rfl⟩
      all_goals first | (exfalso; omega) | skip
      all_goals
        go_enter Tryd.func12, Tryd.ntmps12
        go_wp2_with (first | (go_at_call 14; (with_reducible refine (hM _).mono ?_); rintro e w1 ⟨rfl, hxb⟩; (have hWn : Bz w w1 c a num den := Bz.next (by first | (with_reducible assumption) | exact Bz.new _ _ _ | exact Bz.out (by with_reducible assumption) _) hxb); obtain ⟨hxc, hxf⟩ := bcell hxb; clear hxb hxf; obtain ⟨hxB, hxl2, hxq0, hxq1, hxq2, hxq3, hxq4, hxq5, hxf0, hxf1⟩ := id hWn; (have hxl0 : w.heap.size < w1.heap.size := (by omega)); (have hxl1 : w.heap.size + 1 < w1.heap.size := (by omega))) | (go_at_call 14; (with_reducible refine (hMB _).mono ?_); rintro e w1 ⟨rfl, hxb⟩; (have hWn : Bz w w1 c a num den := Bz.next (by first | (with_reducible assumption) | exact Bz.new _ _ _ | exact Bz.out (by with_reducible assumption) _) hxb); obtain ⟨hxc, hxf⟩ := bcell hxb; clear hxb hxf; obtain ⟨hxB, hxl2, hxq0, hxq1, hxq2, hxq3, hxq4, hxq5, hxf0, hxf1⟩ := id hWn; (have hxl0 : w.heap.size < w1.heap.size := (by omega)); (have hxl1 : w.heap.size + 1 < w1.heap.size := (by omega))) | (go_at_call 32; (with_reducible refine (hF _).mono ?_); rintro e w1 ⟨rfl, hxb⟩; (have hWn : Bz w w1 c a num den := Bz.next (by first | (with_reducible assumption) | exact Bz.new _ _ _ | exact Bz.out (by with_reducible assumption) _) hxb); obtain ⟨hxc, hxf⟩ := bcell hxb; clear hxb hxf; obtain ⟨hxB, hxl2, hxq0, hxq1, hxq2, hxq3, hxq4, hxq5, hxf0, hxf1⟩ := id hWn; (have hxl0 : w.heap.size < w1.heap.size := (by omega)); (have hxl1 : w.heap.size + 1 < w1.heap.size := (by omega))) | (go_at_call 33; (with_reducible refine (hP _).mono ?_); rintro e w' ⟨rfl, rfl⟩))
        all_goals first | (exfalso; omega) | (refine bodyPost_ret (v := .tuple #[mv ⟨#[]⟩ 0, .bool false]) (by simp [results, Tryd.results12, go_sem, hxq4, hxq5]) rfl ⟨by rw [he.out]; rfl, by (repeat' first | exact Below.refl _ _ | (with_reducible assumption) | (with_reducible refine bAlloc (by first | omega | (simp <;> omega)) ?_) | (with_reducible refine bSet (by first | omega | (simp <;> omega)) ?_) | (with_reducible refine bDrew ?_) | (with_reducible refine bDrewN ?_) | (with_reducible refine bTrans (by with_reducible assumption) (by first | omega | (simp <;> omega)) ?_))⟩)
  · have he := Lib.hid (HOK.out (by omega))
    rw [show decide (N1 ≤ 1099511627776) = true from decide_eq_true (by omega)] at hMB
    clear HOK HBG
    rcases hcond with ⟨rfl, rfl⟩ | ⟨rfl, rfl, hr⟩ | ⟨rfl, rfl, hr⟩ | ⟨rfl, rfl, hr⟩ | ⟨rfl, rfl, hr⟩
    all_goals
      simp only [Bool.false_eq_true, if_false, if_true, Int.add_zero] at hN1
      try (obtain rfl : N = N1 := hN1)
      rcases hAA with ⟨h1, h2⟩ | ⟨h1, rfl⟩ <;> rcases hBB with ⟨h3, h4⟩ | ⟨h3, rfl⟩
      all_goals first | (exfalso; omega) | skip
      all_goals
        go_enter Tryd.func12, Tryd.ntmps12
        go_wp2_with (first | (go_at_call 14; (with_reducible refine (hM _).mono ?_); rintro e w1 ⟨rfl, hxb⟩; (have hWn : Bz w w1 c a num den := Bz.next (by first | (with_reducible assumption) | exact Bz.new _ _ _ | exact Bz.out (by with_reducible assumption) _) hxb); obtain ⟨hxc, hxf⟩ := bcell hxb; clear hxb hxf; obtain ⟨hxB, hxl2, hxq0, hxq1, hxq2, hxq3, hxq4, hxq5, hxf0, hxf1⟩ := id hWn; (have hxl0 : w.heap.size < w1.heap.size := (by omega)); (have hxl1 : w.heap.size + 1 < w1.heap.size := (by omega))) | (go_at_call 14; (with_reducible refine (hMB _).mono ?_); rintro e w1 ⟨rfl, hxb⟩; (have hWn : Bz w w1 c a num den := Bz.next (by first | (with_reducible assumption) | exact Bz.new _ _ _ | exact Bz.out (by with_reducible assumption) _) hxb); obtain ⟨hxc, hxf⟩ := bcell hxb; clear hxb hxf; obtain ⟨hxB, hxl2, hxq0, hxq1, hxq2, hxq3, hxq4, hxq5, hxf0, hxf1⟩ := id hWn; (have hxl0 : w.heap.size < w1.heap.size := (by omega)); (have hxl1 : w.heap.size + 1 < w1.heap.size := (by omega))) | (go_at_call 32; (with_reducible refine (hF _).mono ?_); rintro e w1 ⟨rfl, hxb⟩; (have hWn : Bz w w1 c a num den := Bz.next (by first | (with_reducible assumption) | exact Bz.new _ _ _ | exact Bz.out (by with_reducible assumption) _) hxb); obtain ⟨hxc, hxf⟩ := bcell hxb; clear hxb hxf; obtain ⟨hxB, hxl2, hxq0, hxq1, hxq2, hxq3, hxq4, hxq5, hxf0, hxf1⟩ := id hWn; (have hxl0 : w.heap.size < w1.heap.size := (by omega)); (have hxl1 : w.heap.size + 1 < w1.heap.size := (by omega))) | (go_at_call 33; (with_reducible refine (hP _).mono ?_); rintro e w' ⟨rfl, rfl⟩))
        all_goals first | (exfalso; omega) | (refine bodyPost_ret (v := .tuple #[mv c B, .bool true]) (by simp [results, Tryd.results12, go_sem, hxq4, hxq5]) rfl ⟨by rw [he.out]; rfl, by (repeat' first | exact Below.refl _ _ | (with_reducible assumption) | (with_reducible refine bAlloc (by first | omega | (simp <;> omega)) ?_) | (with_reducible refine bSet (by first | omega | (simp <;> omega)) ?_) | (with_reducible refine bDrew ?_) | (with_reducible refine bDrewN ?_) | (with_reducible refine bTrans (by with_reducible assumption) (by first | omega | (simp <;> omega)) ?_))⟩) | (refine bodyPost_ret (v := .tuple #[mv c N1, .bool true]) (by simp [results, Tryd.results12, go_sem, hxq4, hxq5]) rfl ⟨by rw [he.out]; rfl, by (repeat' first | exact Below.refl _ _ | (with_reducible assumption) | (with_reducible refine bAlloc (by first | omega | (simp <;> omega)) ?_) | (with_reducible refine bSet (by first | omega | (simp <;> omega)) ?_) | (with_reducible refine bDrew ?_) | (with_reducible refine bDrewN ?_) | (with_reducible refine bTrans (by with_reducible assumption) (by first | omega | (simp <;> omega)) ?_))⟩) | (refine bodyPost_ret (v := .tuple #[mv c N, .bool true]) (by simp [results, Tryd.results12, go_sem, hxq4, hxq5]) rfl ⟨by rw [he.out]; rfl, by (repeat' first | exact Below.refl _ _ | (with_reducible assumption) | (with_reducible refine bAlloc (by first | omega | (simp <;> omega)) ?_) | (with_reducible refine bSet (by first | omega | (simp <;> omega)) ?_) | (with_reducible refine bDrew ?_) | (with_reducible refine bDrewN ?_) | (with_reducible refine bTrans (by with_reducible assumption) (by first | omega | (simp <;> omega)) ?_))⟩)
end Go.Proofs.YtgnmjopifdekiaaDoor
