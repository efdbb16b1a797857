/-
  Days: Between, walked.
-/
import Derived.Test.YtpgldnjejnigiaaDoorY
import Derived.IntWalk
namespace Go.Proofs.YtpgldnjejnigiaaDoor
open Go.RowKit

theorem wk_congr {r r' : Int → Bool} (h : ∀ d : Nat, r d = r' d) : ∀ n, wk r n = wk r' n
  | 0 => rfl
  | n + 1 => by rw [wk, wk, wk_congr h n, h]
theorem ah_is {c : Cal} (hm : mayB c = true) {d : Int} (h : 0 ≤ d) : ahZ c.rest c.hol d = wkI (restsC c) d := by
  obtain ⟨m1, m2, m3, m4⟩ := may_rest hm
  obtain ⟨n, rfl⟩ := Int.eq_ofNat_of_zero_le h
  rw [ah_wk c.rest c.hol m1 m2 m3 m4 n]
  unfold wkI
  rw [Int.toNat_natCast]
  congr 1
  refine wk_congr (fun d => ?_) n
  unfold restsC
  rw [Int.tmod_eq_emod_of_nonneg (by omega)]
theorem may_few {c : Cal} (h : mayB c = true) : c.hol.length ≤ 4096 := by
  unfold mayB riseB at h
  simp at h
  omega
def betZ (c : Cal) (f t : Int) : Int :=
  if min t 1048577 ≤ max f 0 then 0 else (wkI (restsC (ownC c)) (min t 1048577) : Int) - (wkI (restsC (ownC c)) (max f 0) : Int)
theorem wkI_le (r : Int → Bool) {d : Int} (h0 : 0 ≤ d) : (wkI r d : Int) ≤ d := by
  have := wk_le r d.toNat
  unfold wkI
  omega
theorem AlW.drew {w W : World} {y : Cv} (h : AlW w W y) : AlW w W.drew y := by
  obtain ⟨h1, h2, h3, h4⟩ := h
  exact ⟨h1.drew, h2, h3, h4⟩
set_option maxHeartbeats 1000000 in
set_option maxRecDepth 100000 in
theorem betweenW (x : Cv) (c : Cal) (f t : Int) (w : World) (hr : Rc w x c) :
    Calls Tryd.prog 26 #[x.v, .int .i64 f, .int .i64 t] w fun e w' => e = .returned (.int .i64 (betZ c f t)) ∧ Below w.heap.size w w' := by
  have hO := fun w' (hb : Below w.heap.size w w') => ownW x c w' (hr.next hb)
  have hmo := own_may c
  have hA := fun d w' (hb : Below w.heap.size w w') d0 d1 => aheadW (ownV x c) (ownC c) d w' (hr.own.next hb) hmo d0 d1 (may_few hmo)
  have hz : betZ c f t = if min t 1048577 ≤ max f 0 then 0 else (wkI (restsC (ownC c)) (min t 1048577) : Int) - (wkI (restsC (ownC c)) (max f 0) : Int) := rfl
  have F0 : 0 ≤ max f 0 := by omega
  have T1 : min t 1048577 ≤ 1048577 := by omega
  have hi1 := fun d (h : 0 ≤ d) => ah_is hmo (d := d) h
  by_cases hle : min t 1048577 ≤ max f 0
  · rw [if_pos hle] at hz
    have HZ := Lib.hid hz
    clear hz hA hO hmo hr hi1
    go_enter Tryd.func26, Tryd.ntmps26
    go_wp2
    go_ret
    rw [HZ.out]
    exact ⟨rfl, by (repeat' first | exact Below.refl _ _ | (with_reducible assumption) | (with_reducible refine bAlloc (by first | omega | (simp <;> omega)) ?_) | (with_reducible refine bSet (by first | omega | (simp <;> omega)) ?_) | (with_reducible refine bDrew ?_) | (with_reducible refine bDrewN ?_) | (with_reducible refine bTrans (by with_reducible assumption) (by first | omega | (simp <;> omega)) ?_))⟩
  · rw [if_neg hle] at hz
    have T0 : 0 ≤ min t 1048577 := by omega
    have F1 : max f 0 ≤ 1048577 := by omega
    have hlt : max f 0 < min t 1048577 := by omega
    have hAT := fun w' hb => hA (min t 1048577) w' hb T0 T1
    have hAF := fun w' hb => hA (max f 0) w' hb F0 F1
    have hm1 := wkI_mono (restsC (ownC c)) (a := max f 0) (b := min t 1048577) (by omega)
    have hm2 := wkI_le (restsC (ownC c)) T0
    rw [hi1 _ T0] at hAT
    rw [hi1 _ F0] at hAF
    have HZ := Lib.hid hz
    clear hz hA hmo hr hi1 hle
    generalize ownV x c = y at *
    generalize wkI (restsC (ownC c)) (min t 1048577) = a at *
    generalize wkI (restsC (ownC c)) (max f 0) = b at *
    go_enter Tryd.func26, Tryd.ntmps26
    go_wp2_with (go_at_call 44; refine (hO _ (by (repeat' first | exact Below.refl _ _ | (with_reducible assumption) | (with_reducible refine bAlloc (by first | omega | (simp <;> omega)) ?_) | (with_reducible refine bSet (by first | omega | (simp <;> omega)) ?_) | (with_reducible refine bDrew ?_) | (with_reducible refine bDrewN ?_) | (with_reducible refine bTrans (by with_reducible assumption) (by first | omega | (simp <;> omega)) ?_)))).mono ?_; rintro e w1 ⟨rfl, hxb⟩; (obtain ⟨hxc, hxf⟩ := bcell hxb; have hxz := hxb.size; (try simp [Nat.succ_le_iff] at hxz); (try have hxy := Nat.lt_of_succ_lt hxz); (try have hxy2 := Nat.lt_of_succ_lt hxy); (try have hxy3 := Nat.lt_of_succ_lt hxy2); (try have hxy4 := Nat.lt_of_succ_lt hxy3); have hxB : Below w.heap.size w w1 := (by (repeat' first | exact Below.refl _ _ | (with_reducible assumption) | (with_reducible refine bAlloc (by first | omega | (simp <;> omega)) ?_) | (with_reducible refine bSet (by first | omega | (simp <;> omega)) ?_) | (with_reducible refine bDrew ?_) | (with_reducible refine bDrewN ?_) | (with_reducible refine bTrans (by with_reducible assumption) (by first | omega | (simp <;> omega)) ?_))); have hxk := below_all hxB; (try have hxl0 : w.heap.size < w1.heap.size := (by omega)); (try have hxl1 : w.heap.size + 1 < w1.heap.size := (by omega)); (try have hxl2 : w.heap.size + 2 < w1.heap.size := (by omega))))
    have hW : AlW w ((w1.setCell ⟨w.heap.size, 0, none⟩ (.slice y.A1 y.n1 y.c1)).setCell ⟨w.heap.size, 1, none⟩ (.slice y.A2 y.n2 y.c2)) y := by
      have g0 : w1.cell? ⟨w.heap.size, 0, none⟩ = some (.slice x.A1 x.n1 x.c1) := by rw [hxc _ _ (by simp)]; simp [go_sem]
      have g1 : w1.cell? ⟨w.heap.size, 1, none⟩ = some (.slice x.A2 x.n2 x.c2) := by rw [hxc _ _ (by simp)]; simp [go_sem]
      refine ⟨by (repeat' first | exact Below.refl _ _ | (with_reducible assumption) | (with_reducible refine bAlloc (by first | omega | (simp <;> omega)) ?_) | (with_reducible refine bSet (by first | omega | (simp <;> omega)) ?_) | (with_reducible refine bDrew ?_) | (with_reducible refine bDrewN ?_) | (with_reducible refine bTrans (by with_reducible assumption) (by first | omega | (simp <;> omega)) ?_)), by simpa using hxl0, ?_, ?_⟩
      · simp [go_sem, g0]
      · simp [go_sem, g1]
    generalize ((w1.setCell ⟨w.heap.size, 0, none⟩ (.slice y.A1 y.n1 y.c1)).setCell ⟨w.heap.size, 1, none⟩ (.slice y.A2 y.n2 y.c2)) = wr at hW ⊢
    generalize max f 0 = F at *
    generalize min t 1048577 = T at *
    clear hxb hxc hxf hxz hxB hxk hxl0 hO
    have hW2 := AlW.drew hW
    have HWR := Lib.hid (IntWalk.i64_in ((a : Int) - b) (by omega))
    obtain ⟨hxB, hxl0, hxq0, hxq1⟩ := id hW
    go_region_held3 (fun w' => w'.cell? ⟨w.heap.size, 0, none⟩ = some (.slice y.A1 y.n1 y.c1) ∧ w'.cell? ⟨w.heap.size, 1, none⟩ = some (.slice y.A2 y.n2 y.c2))
      (first | (go_keep; done))
      (first | (go_at_call 46; (with_reducible refine (hAT _ (by (repeat' first | exact Below.refl _ _ | (with_reducible assumption) | (with_reducible refine bAlloc (by first | omega | (simp <;> omega)) ?_) | (with_reducible refine bSet (by first | omega | (simp <;> omega)) ?_) | (with_reducible refine bDrew ?_) | (with_reducible refine bDrewN ?_) | (with_reducible refine bTrans (by with_reducible assumption) (by first | omega | (simp <;> omega)) ?_)))).mono ?_); rintro e w1 ⟨rfl, hxb⟩; have hWn := AlW.next (by with_reducible assumption) hxb; obtain ⟨hxB, hxl0, hxq0, hxq1⟩ := id hWn; clear hxb) | (go_at_call 46; (with_reducible refine (hAF _ (by (repeat' first | exact Below.refl _ _ | (with_reducible assumption) | (with_reducible refine bAlloc (by first | omega | (simp <;> omega)) ?_) | (with_reducible refine bSet (by first | omega | (simp <;> omega)) ?_) | (with_reducible refine bDrew ?_) | (with_reducible refine bDrewN ?_) | (with_reducible refine bTrans (by with_reducible assumption) (by first | omega | (simp <;> omega)) ?_)))).mono ?_); rintro e w1 ⟨rfl, hxb⟩; have hWn := AlW.next (by with_reducible assumption) hxb; obtain ⟨hxB, hxl0, hxq0, hxq1⟩ := id hWn; clear hxb))
    all_goals go_wp2_with fail
    all_goals (go_ret; rw [HZ.out]; exact ⟨ret_int HWR.out, by (repeat' first | exact Below.refl _ _ | (with_reducible assumption) | (with_reducible refine bAlloc (by first | omega | (simp <;> omega)) ?_) | (with_reducible refine bSet (by first | omega | (simp <;> omega)) ?_) | (with_reducible refine bDrew ?_) | (with_reducible refine bDrewN ?_) | (with_reducible refine bTrans (by with_reducible assumption) (by first | omega | (simp <;> omega)) ?_))⟩)
set_option maxHeartbeats 1000000 in
set_option maxRecDepth 100000 in
theorem refBetweenW (x : Cv) (c : Cal) (f t : Int) (w : World) (hr : Rc w x c) :
    Calls Tryd.prog 27 #[x.v, .int .i64 f, .int .i64 t] w fun e w' => e = .returned (.int .i64 (betZ c f t)) ∧ Below w.heap.size w w' := by
  have hR := fun d w' (hb : Below w.heap.size w w') => refRestsW x c d w' (hr.next hb)
  have HZ := Lib.hid (show betZ c f t = if min t 1048577 ≤ max f 0 then 0 else (wkI (restsC (ownC c)) (min t 1048577) : Int) - (wkI (restsC (ownC c)) (max f 0) : Int) from rfl)
  have hW0 : AlW w (w.alloc (.cells #[.slice x.A1 x.n1 x.c1, .slice x.A2 x.n2 x.c2] 31)) x := AlW.box _
  have HQ := Lib.hid (fun d (h : isD d = true) => rests_own (c := c) h)
  clear hr
  generalize restsC (ownC c) = R at *
  by_cases hf : f < 0
  all_goals
    try (have hf2 : 0 ≤ f := by omega)
    by_cases ht : 1048577 < t
  all_goals
    try (have ht2 : t ≤ 1048577 := by omega)
    go_enter Tryd.func27, Tryd.ntmps27
    go_wp2
    go_loopw [7, 8] (fun nn i W => ∃ d : Int, i = .int .i64 d ∧ nn = .int .i64 ((wkI R d : Int) - (wkI R (max f 0) : Int)) ∧ AlW w W x ∧ max f 0 ≤ d ∧ d ≤ max (max f 0) (min t 1048577)) (fun _ i _ => (max f 0 + max (max f 0) (min t 1048577) - intOf i).toNat)
    case atStart =>
      refine ⟨_, rfl, ?_, hW0, by omega, by omega⟩
      first | rw [show max f 0 = 0 by omega] | rw [show max f 0 = f by omega]
      rw [Int.sub_self]
    case round =>
      obtain ⟨d, rfl, rfl, hW, d0, d1⟩ := hrel
      have hWs := hW
      obtain ⟨hB0, hz0, z0, z1⟩ := hW
      by_cases hlt : d < min t 1048577
      · have hlt2 : (1048577 < t → d < 1048577) ∧ (t ≤ 1048577 → d < t) := by omega
        first | (have hlt3 := hlt2.1 ht) | (have hlt3 := hlt2.2 ht2)
        have hd : isD d = true := isD_iff.2 (by omega)
        have hR1 := fun w' hb => hR d w' hb
        rw [HQ.out d hd] at hR1
        have hm1 := wkI_mono R d0
        have hm2 := wkI_le R (d := d) (by omega)
        have hs := Lib.hid (wkI_succ R (d := d) (by omega))
        have hd1 : d ≤ 1048577 := by omega
        have hd2 : 0 ≤ d := by omega
        clear hd hlt2
        generalize wkI R (max f 0) = g at *
        generalize wkI R d = a at *
        cases hr1 : R d
        all_goals
          rw [hr1] at hs
          simp only [hr1] at hR1
          clear hr1
          go_wp2_with (go_at_call 25; refine (hR1 _ (by (repeat' first | exact Below.refl _ _ | (with_reducible assumption) | (with_reducible refine bAlloc (by first | omega | (simp <;> omega)) ?_) | (with_reducible refine bSet (by first | omega | (simp <;> omega)) ?_) | (with_reducible refine bDrew ?_) | (with_reducible refine bDrewN ?_) | (with_reducible refine bTrans (by with_reducible assumption) (by first | omega | (simp <;> omega)) ?_)))).mono ?_; rintro e w1 ⟨rfl, hxb⟩; (obtain ⟨hxc, hxf⟩ := bcell hxb; have hxz := hxb.size; (try simp [Nat.succ_le_iff] at hxz); (try have hxy := Nat.lt_of_succ_lt hxz); (try have hxy2 := Nat.lt_of_succ_lt hxy); (try have hxy3 := Nat.lt_of_succ_lt hxy2); (try have hxy4 := Nat.lt_of_succ_lt hxy3); have hxB : Below w.heap.size w w1 := (by (repeat' first | exact Below.refl _ _ | (with_reducible assumption) | (with_reducible refine bAlloc (by first | omega | (simp <;> omega)) ?_) | (with_reducible refine bSet (by first | omega | (simp <;> omega)) ?_) | (with_reducible refine bDrew ?_) | (with_reducible refine bDrewN ?_) | (with_reducible refine bTrans (by with_reducible assumption) (by first | omega | (simp <;> omega)) ?_))); have hxk := below_all hxB; (try have hxl0 : w.heap.size < w1.heap.size := (by omega)); (try have hxl1 : w.heap.size + 1 < w1.heap.size := (by omega)); (try have hxl2 : w.heap.size + 2 < w1.heap.size := (by omega))))
          go_roundw
          case rel => exact ⟨d + 1, rfl, by rw [hs.out]; simp <;> omega, hWs.next hxb, by omega, by omega⟩
          case measure => simp [intOf]; omega
      · have hlt2 : (1048577 < t → 1048577 ≤ d) ∧ (t ≤ 1048577 → t ≤ d) := by omega
        first | (have hlt3 := hlt2.1 ht) | (have hlt3 := hlt2.2 ht2)
        have hE := Lib.hid (show betZ c f t = (wkI R d : Int) - (wkI R (max f 0) : Int) by
          rw [HZ.out]
          by_cases hle : min t 1048577 ≤ max f 0
          · rw [if_pos hle, show d = max f 0 by omega, Int.sub_self]
          · rw [if_neg hle, show d = min t 1048577 by omega])
        clear hlt2 HZ
        generalize (wkI R d : Int) - (wkI R (max f 0) : Int) = N at *
        go_wp2
        go_ret
        rw [hE.out]
        exact ⟨rfl, by (repeat' first | exact Below.refl _ _ | (with_reducible assumption) | (with_reducible refine bAlloc (by first | omega | (simp <;> omega)) ?_) | (with_reducible refine bSet (by first | omega | (simp <;> omega)) ?_) | (with_reducible refine bDrew ?_) | (with_reducible refine bDrewN ?_) | (with_reducible refine bTrans (by with_reducible assumption) (by first | omega | (simp <;> omega)) ?_))⟩
end Go.Proofs.YtpgldnjejnigiaaDoor
