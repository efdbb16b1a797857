/-
  Days: along.
-/
import Derived.Test.YtpgldnjejnigiaaDoorF
namespace Go.Proofs.YtpgldnjejnigiaaDoor
open Go.RowKit

def msD (step d : Int) : Nat := if step = 1 then (1048577 - d).toNat else (d + 1).toNat
abbrev pairV (r : Int × Bool) : Value := .tuple #[.int .i64 r.1, .bool r.2]
def alongZ (c : Cal) (d n step : Int) : Int × Bool := alF (restsC (ownC c)) step 1048580 d n

/-- the world of a round: the box holds y -/
def AlW (w W : World) (y : Cv) : Prop := Below w.heap.size w W ∧ w.heap.size < W.heap.size ∧ W.cell? ⟨w.heap.size, 0, none⟩ = some (.slice y.A1 y.n1 y.c1) ∧ W.cell? ⟨w.heap.size, 1, none⟩ = some (.slice y.A2 y.n2 y.c2)
theorem AlW.next {w W W' : World} {y : Cv} (h : AlW w W y) (hb : Below W.heap.size W W') : AlW w W' y := by
  obtain ⟨h1, h2, h3, h4⟩ := h
  exact ⟨h1.trans (hb.mono (by have := h1.size; omega)), by have := hb.size; omega, (hb.cell (p := ⟨w.heap.size, 0, none⟩) h2).trans h3, (hb.cell (p := ⟨w.heap.size, 1, none⟩) h2).trans h4⟩
theorem along_no {c : Cal} {step d n : Int} {k : Nat} (h : isD d = false) : alF (restsC c) step k d n = (0, false) := by
  cases k with
  | zero => rfl
  | succ k => rw [alF, h]; rfl
theorem ms_pos {step d : Int} (h : isD d = true) : 0 < msD step d := by
  unfold isD at h
  simp at h
  unfold msD
  split <;> omega
theorem ms_next {step d : Int} (hst : step = 1 ∨ step = -1) (h : isD d = true) : msD step (d + step) + 1 = msD step d := by
  unfold isD at h
  simp at h
  unfold msD
  rcases hst with rfl | rfl
  · simp; omega
  · simp; omega
theorem along_on {c : Cal} {step d n : Int} {k : Nat} (h : isD d = true) (hk : msD step d ≤ k) : ∃ k', k = k' + 1 ∧ alF (restsC c) step k d n = if (if restsC c d then n else n - 1) > 0 then alF (restsC c) step k' (d + step) (if restsC c d then n else n - 1) else (d, true) := by
  have := ms_pos (step := step) h
  refine ⟨k - 1, by omega, ?_⟩
  conv => lhs; rw [show k = (k - 1) + 1 by omega]
  rw [alF, h]
  rfl
def AlJ (x y : Cv) (c : Cal) (d n step : Int) (w : World) (a : Act) (W : World) : Prop :=
  ∃ (k : Nat) (d' n' : Int) (u10 u11 u12 u13 u14 u15 u16 u17 u18 u19 u20 u21 u22 u23 u24 u25 u26 : Value), a = { tmps := #[x.v, .int .i64 d', .int .i64 n', .int .i64 step, .pointer (some ⟨w.heap.size, 0, none⟩), undef, undef, undef, .int .i64 0, .bool false, u10, u11, u12, u13, u14, u15, u16, u17, u18, u19, u20, u21, u22, u23, u24, u25, u26], defers := [] } ∧
    AlW w W y ∧ (-2 ≤ d' ∧ d' ≤ 1048578 ∧ -1048577 ≤ n' ∧ n' ≤ 1048577) ∧ msD step d' ≤ k ∧ alF (restsC (ownC c)) step k d' n' = alongZ c d n step
set_option maxRecDepth 100000 in
set_option maxHeartbeats 2000000 in
theorem alongW (x : Cv) (c : Cal) (d n step : Int) (w : World) (hr : Rc w x c) (hst : step = 1 ∨ step = -1) (hd : -2 ≤ d ∧ d ≤ 1048578) (hn : -1048577 ≤ n ∧ n ≤ 1048577) :
    Calls Tryd.prog 40 #[x.v, .int .i64 d, .int .i64 n, .int .i64 step] w fun e w' => e = .returned (pairV (alongZ c d n step)) ∧ Below w.heap.size w w' := by
  have hO := fun w' (hb : Below w.heap.size w w') => ownW x c w' (hr.next hb)
  have hro := hr.own
  have hmo := own_may c
  have hR := fun d' w' (hb : Below w.heap.size w w') (hD : isD d' = true) => restsW (ownV x c) (ownC c) d' w' (hro.next hb) hmo hD
  generalize ownV x c = y at *
  clear hro hmo hr
  go_enter Tryd.func40, Tryd.ntmps40
  go_wp2_with fail
  refine wp_scope_jumps 0 (AlJ x y c d n step w) (fun a _ => msD step (intOf (a.tmps.getD 1 undef))) rfl ?_ ?_
  · go_wp2_with (go_at_call 44; refine (hO _ (by (repeat' first | exact Below.refl _ _ | (with_reducible assumption) | (with_reducible refine bAlloc (by first | omega | (simp <;> omega)) ?_) | (with_reducible refine bSet (by first | omega | (simp <;> omega)) ?_) | (with_reducible refine bDrew ?_) | (with_reducible refine bDrewN ?_) | (with_reducible refine bTrans (by with_reducible assumption) (by first | omega | (simp <;> omega)) ?_)))).mono ?_; rintro e w1 ⟨rfl, hxb⟩; (obtain ⟨hxc, hxf⟩ := bcell hxb; have hxz := hxb.size; (try simp [Nat.succ_le_iff] at hxz); (try have hxy := Nat.lt_of_succ_lt hxz); (try have hxy2 := Nat.lt_of_succ_lt hxy); (try have hxy3 := Nat.lt_of_succ_lt hxy2); (try have hxy4 := Nat.lt_of_succ_lt hxy3); have hxB : Below w.heap.size w w1 := (by (repeat' first | exact Below.refl _ _ | (with_reducible assumption) | (with_reducible refine bAlloc (by first | omega | (simp <;> omega)) ?_) | (with_reducible refine bSet (by first | omega | (simp <;> omega)) ?_) | (with_reducible refine bDrew ?_) | (with_reducible refine bDrewN ?_) | (with_reducible refine bTrans (by with_reducible assumption) (by first | omega | (simp <;> omega)) ?_))); have hxk := below_all hxB; (try have hxl0 : w.heap.size < w1.heap.size := (by omega)); (try have hxl1 : w.heap.size + 1 < w1.heap.size := (by omega)); (try have hxl2 : w.heap.size + 2 < w1.heap.size := (by omega))))
    go_step3
    have hW : AlW w ((w1.setCell ⟨w.heap.size, 0, none⟩ (.slice y.A1 y.n1 y.c1)).setCell ⟨w.heap.size, 1, none⟩ (.slice y.A2 y.n2 y.c2)) y := by
      have g0 : w1.cell? ⟨w.heap.size, 0, none⟩ = some (.slice x.A1 x.n1 x.c1) := by rw [hxc _ _ (by simp)]; simp [go_sem]
      have g1 : w1.cell? ⟨w.heap.size, 1, none⟩ = some (.slice x.A2 x.n2 x.c2) := by rw [hxc _ _ (by simp)]; simp [go_sem]
      refine ⟨by (repeat' first | exact Below.refl _ _ | (with_reducible assumption) | (with_reducible refine bAlloc (by first | omega | (simp <;> omega)) ?_) | (with_reducible refine bSet (by first | omega | (simp <;> omega)) ?_) | (with_reducible refine bDrew ?_) | (with_reducible refine bDrewN ?_) | (with_reducible refine bTrans (by with_reducible assumption) (by first | omega | (simp <;> omega)) ?_)), by simpa using hxl0, ?_, ?_⟩
      · simp [go_sem, g0]
      · simp [go_sem, g1]
    generalize ((w1.setCell ⟨w.heap.size, 0, none⟩ (.slice y.A1 y.n1 y.c1)).setCell ⟨w.heap.size, 1, none⟩ (.slice y.A2 y.n2 y.c2)) = wr at hW ⊢
    have hq : Hid (alF (restsC (ownC c)) step 1048580 d n = alongZ c d n step) := Lib.hid rfl
    have hk : msD step d ≤ 1048580 := by unfold msD; split <;> omega
    generalize (1048580 : Nat) = K0 at hq hk
    clear hxb hxc hxf hxz hxB hxk hxl0 hO
    obtain ⟨hd2, hd3⟩ := hd
    obtain ⟨hn2, hn3⟩ := hn
    have hI := fun w => isW d w
    have hW0 := hW
    obtain ⟨hB0, hz0, z0, z1⟩ := hW
    cases hdd : isD d with
    | false =>
      have he := Lib.hid (show alongZ c d n step = (0, false) by rw [← hq.out]; exact along_no hdd)
      simp only [hdd] at hI
      clear hdd
      go_wp2_with (go_at_call 33; refine (hI _).mono ?_; rintro e w' ⟨rfl, rfl⟩)
      all_goals (simp only [Exit.jump]; go_ret2; go_light; rw [he.out]; exact ⟨rfl, by (repeat' first | exact Below.refl _ _ | (with_reducible assumption) | (with_reducible refine bAlloc (by first | omega | (simp <;> omega)) ?_) | (with_reducible refine bSet (by first | omega | (simp <;> omega)) ?_) | (with_reducible refine bDrew ?_) | (with_reducible refine bDrewN ?_) | (with_reducible refine bTrans (by with_reducible assumption) (by first | omega | (simp <;> omega)) ?_))⟩)
    | true =>
      obtain ⟨k', rfl, heq⟩ := along_on (c := ownC c) (n := n) hdd hk
      have hd01 : 0 ≤ d ∧ d ≤ 1048576 := by unfold isD at hdd; simpa using hdd
      obtain ⟨hd0, hd1⟩ := hd01
      have hms := ms_next hst hdd
      have hR' := fun w' (hb : Below w.heap.size w w') => hR d w' hb hdd
      simp only [hdd] at hI
      clear hdd
      cases hrr : restsC (ownC c) d with
      | true =>
        simp only [hrr] at hR' heq
        by_cases hpos : n > 0
        · have hj := Lib.hid (show alF (restsC (ownC c)) step k' (d + step) (n) = alongZ c d n step by rw [← hq.out, heq]; simp only [if_true, Bool.false_eq_true, if_false]; first | rw [if_pos hpos] | rw [if_neg hpos])
          have hposI : 0 < n := hpos
          clear hq heq hrr
          have HK := Lib.hid hk
          have HMS := Lib.hid hms
          clear hk hms hpos
          go_wp2_with (first | (go_at_call 33; refine (hI _).mono ?_; rintro e w' ⟨rfl, rfl⟩) | (go_at_call 43; refine (hR' _ (by (repeat' first | exact Below.refl _ _ | (with_reducible assumption) | (with_reducible refine bAlloc (by first | omega | (simp <;> omega)) ?_) | (with_reducible refine bSet (by first | omega | (simp <;> omega)) ?_) | (with_reducible refine bDrew ?_) | (with_reducible refine bDrewN ?_) | (with_reducible refine bTrans (by with_reducible assumption) (by first | omega | (simp <;> omega)) ?_)))).mono ?_; rintro e w1 ⟨rfl, hxb⟩; (obtain ⟨hxc, hxf⟩ := bcell hxb; have hxz := hxb.size; (try simp [Nat.succ_le_iff] at hxz); (try have hxy := Nat.lt_of_succ_lt hxz); (try have hxy2 := Nat.lt_of_succ_lt hxy); (try have hxy3 := Nat.lt_of_succ_lt hxy2); (try have hxy4 := Nat.lt_of_succ_lt hxy3); have hxB : Below w.heap.size w w1 := (by (repeat' first | exact Below.refl _ _ | (with_reducible assumption) | (with_reducible refine bAlloc (by first | omega | (simp <;> omega)) ?_) | (with_reducible refine bSet (by first | omega | (simp <;> omega)) ?_) | (with_reducible refine bDrew ?_) | (with_reducible refine bDrewN ?_) | (with_reducible refine bTrans (by with_reducible assumption) (by first | omega | (simp <;> omega)) ?_))); have hxk := below_all hxB; (try have hxl0 : w.heap.size < w1.heap.size := (by omega)); (try have hxl1 : w.heap.size + 1 < w1.heap.size := (by omega)); (try have hxl2 : w.heap.size + 2 < w1.heap.size := (by omega)))))
          all_goals (go_step3; go_light; refine ⟨rfl, ⟨k', d + step, n, _, _, _, _, _, _, _, _, _, _, _, _, _, _, _, _, _, rfl, hW0.next hxb, ⟨by omega, by omega, by omega, by omega⟩, by have a := HK.out; have b := HMS.out; omega, hj.out⟩⟩)
        · have hj := Lib.hid (show alongZ c d n step = (d, true) by rw [← hq.out, heq]; simp only [if_true, Bool.false_eq_true, if_false]; first | rw [if_pos hpos] | rw [if_neg hpos])
          have hposI : n ≤ 0 := by omega
          clear hq heq hrr hk hms hpos
          go_wp2_with (first | (go_at_call 33; refine (hI _).mono ?_; rintro e w' ⟨rfl, rfl⟩) | (go_at_call 43; refine (hR' _ (by (repeat' first | exact Below.refl _ _ | (with_reducible assumption) | (with_reducible refine bAlloc (by first | omega | (simp <;> omega)) ?_) | (with_reducible refine bSet (by first | omega | (simp <;> omega)) ?_) | (with_reducible refine bDrew ?_) | (with_reducible refine bDrewN ?_) | (with_reducible refine bTrans (by with_reducible assumption) (by first | omega | (simp <;> omega)) ?_)))).mono ?_; rintro e w1 ⟨rfl, hxb⟩; (obtain ⟨hxc, hxf⟩ := bcell hxb; have hxz := hxb.size; (try simp [Nat.succ_le_iff] at hxz); (try have hxy := Nat.lt_of_succ_lt hxz); (try have hxy2 := Nat.lt_of_succ_lt hxy); (try have hxy3 := Nat.lt_of_succ_lt hxy2); (try have hxy4 := Nat.lt_of_succ_lt hxy3); have hxB : Below w.heap.size w w1 := (by (repeat' first | exact Below.refl _ _ | (with_reducible assumption) | (with_reducible refine bAlloc (by first | omega | (simp <;> omega)) ?_) | (with_reducible refine bSet (by first | omega | (simp <;> omega)) ?_) | (with_reducible refine bDrew ?_) | (with_reducible refine bDrewN ?_) | (with_reducible refine bTrans (by with_reducible assumption) (by first | omega | (simp <;> omega)) ?_))); have hxk := below_all hxB; (try have hxl0 : w.heap.size < w1.heap.size := (by omega)); (try have hxl1 : w.heap.size + 1 < w1.heap.size := (by omega)); (try have hxl2 : w.heap.size + 2 < w1.heap.size := (by omega)))))
          all_goals (simp only [Exit.jump]; go_ret2; go_light; rw [hj.out]; exact ⟨rfl, by (repeat' first | exact Below.refl _ _ | (with_reducible assumption) | (with_reducible refine bAlloc (by first | omega | (simp <;> omega)) ?_) | (with_reducible refine bSet (by first | omega | (simp <;> omega)) ?_) | (with_reducible refine bDrew ?_) | (with_reducible refine bDrewN ?_) | (with_reducible refine bTrans (by with_reducible assumption) (by first | omega | (simp <;> omega)) ?_))⟩)
      | false =>
        simp only [hrr] at hR' heq
        by_cases hpos : n - 1 > 0
        · have hj := Lib.hid (show alF (restsC (ownC c)) step k' (d + step) (n - 1) = alongZ c d n step by rw [← hq.out, heq]; simp only [if_true, Bool.false_eq_true, if_false]; first | rw [if_pos hpos] | rw [if_neg hpos])
          have hposI : 0 < n - 1 := hpos
          clear hq heq hrr
          have HK := Lib.hid hk
          have HMS := Lib.hid hms
          clear hk hms hpos
          go_wp2_with (first | (go_at_call 33; refine (hI _).mono ?_; rintro e w' ⟨rfl, rfl⟩) | (go_at_call 43; refine (hR' _ (by (repeat' first | exact Below.refl _ _ | (with_reducible assumption) | (with_reducible refine bAlloc (by first | omega | (simp <;> omega)) ?_) | (with_reducible refine bSet (by first | omega | (simp <;> omega)) ?_) | (with_reducible refine bDrew ?_) | (with_reducible refine bDrewN ?_) | (with_reducible refine bTrans (by with_reducible assumption) (by first | omega | (simp <;> omega)) ?_)))).mono ?_; rintro e w1 ⟨rfl, hxb⟩; (obtain ⟨hxc, hxf⟩ := bcell hxb; have hxz := hxb.size; (try simp [Nat.succ_le_iff] at hxz); (try have hxy := Nat.lt_of_succ_lt hxz); (try have hxy2 := Nat.lt_of_succ_lt hxy); (try have hxy3 := Nat.lt_of_succ_lt hxy2); (try have hxy4 := Nat.lt_of_succ_lt hxy3); have hxB : Below w.heap.size w w1 := (by (repeat' first | exact Below.refl _ _ | (with_reducible assumption) | (with_reducible refine bAlloc (by first | omega | (simp <;> omega)) ?_) | (with_reducible refine bSet (by first | omega | (simp <;> omega)) ?_) | (with_reducible refine bDrew ?_) | (with_reducible refine bDrewN ?_) | (with_reducible refine bTrans (by with_reducible assumption) (by first | omega | (simp <;> omega)) ?_))); have hxk := below_all hxB; (try have hxl0 : w.heap.size < w1.heap.size := (by omega)); (try have hxl1 : w.heap.size + 1 < w1.heap.size := (by omega)); (try have hxl2 : w.heap.size + 2 < w1.heap.size := (by omega)))))
          all_goals (go_step3; go_light; refine ⟨rfl, ⟨k', d + step, n - 1, _, _, _, _, _, _, _, _, _, _, _, _, _, _, _, _, _, rfl, hW0.next hxb, ⟨by omega, by omega, by omega, by omega⟩, by have a := HK.out; have b := HMS.out; omega, hj.out⟩⟩)
        · have hj := Lib.hid (show alongZ c d n step = (d, true) by rw [← hq.out, heq]; simp only [if_true, Bool.false_eq_true, if_false]; first | rw [if_pos hpos] | rw [if_neg hpos])
          have hposI : n - 1 ≤ 0 := by omega
          clear hq heq hrr hk hms hpos
          go_wp2_with (first | (go_at_call 33; refine (hI _).mono ?_; rintro e w' ⟨rfl, rfl⟩) | (go_at_call 43; refine (hR' _ (by (repeat' first | exact Below.refl _ _ | (with_reducible assumption) | (with_reducible refine bAlloc (by first | omega | (simp <;> omega)) ?_) | (with_reducible refine bSet (by first | omega | (simp <;> omega)) ?_) | (with_reducible refine bDrew ?_) | (with_reducible refine bDrewN ?_) | (with_reducible refine bTrans (by with_reducible assumption) (by first | omega | (simp <;> omega)) ?_)))).mono ?_; rintro e w1 ⟨rfl, hxb⟩; (obtain ⟨hxc, hxf⟩ := bcell hxb; have hxz := hxb.size; (try simp [Nat.succ_le_iff] at hxz); (try have hxy := Nat.lt_of_succ_lt hxz); (try have hxy2 := Nat.lt_of_succ_lt hxy); (try have hxy3 := Nat.lt_of_succ_lt hxy2); (try have hxy4 := Nat.lt_of_succ_lt hxy3); have hxB : Below w.heap.size w w1 := (by (repeat' first | exact Below.refl _ _ | (with_reducible assumption) | (with_reducible refine bAlloc (by first | omega | (simp <;> omega)) ?_) | (with_reducible refine bSet (by first | omega | (simp <;> omega)) ?_) | (with_reducible refine bDrew ?_) | (with_reducible refine bDrewN ?_) | (with_reducible refine bTrans (by with_reducible assumption) (by first | omega | (simp <;> omega)) ?_))); have hxk := below_all hxB; (try have hxl0 : w.heap.size < w1.heap.size := (by omega)); (try have hxl1 : w.heap.size + 1 < w1.heap.size := (by omega)); (try have hxl2 : w.heap.size + 2 < w1.heap.size := (by omega)))))
          all_goals (simp only [Exit.jump]; go_ret2; go_light; rw [hj.out]; exact ⟨rfl, by (repeat' first | exact Below.refl _ _ | (with_reducible assumption) | (with_reducible refine bAlloc (by first | omega | (simp <;> omega)) ?_) | (with_reducible refine bSet (by first | omega | (simp <;> omega)) ?_) | (with_reducible refine bDrew ?_) | (with_reducible refine bDrewN ?_) | (with_reducible refine bTrans (by with_reducible assumption) (by first | omega | (simp <;> omega)) ?_))⟩)
  · rintro a wr ⟨k, d', n', u10, u11, u12, u13, u14, u15, u16, u17, u18, u19, u20, u21, u22, u23, u24, u25, u26, rfl, hW, ⟨hd2, hd3, hn2, hn3⟩, hk, hq⟩
    have hq := Lib.hid hq
    clear hO hd hn
    have hI := fun w => isW d' w
    have hW0 := hW
    obtain ⟨hB0, hz0, z0, z1⟩ := hW
    cases hdd : isD d' with
    | false =>
      have he := Lib.hid (show alongZ c d n step = (0, false) by rw [← hq.out]; exact along_no hdd)
      simp only [hdd] at hI
      clear hdd
      go_wp2_with (go_at_call 33; refine (hI _).mono ?_; rintro e w' ⟨rfl, rfl⟩)
      all_goals (simp only [Exit.jump]; go_ret2; go_light; rw [he.out]; exact ⟨rfl, by (repeat' first | exact Below.refl _ _ | (with_reducible assumption) | (with_reducible refine bAlloc (by first | omega | (simp <;> omega)) ?_) | (with_reducible refine bSet (by first | omega | (simp <;> omega)) ?_) | (with_reducible refine bDrew ?_) | (with_reducible refine bDrewN ?_) | (with_reducible refine bTrans (by with_reducible assumption) (by first | omega | (simp <;> omega)) ?_))⟩)
    | true =>
      obtain ⟨k', rfl, heq⟩ := along_on (c := ownC c) (n := n') hdd hk
      have hd01 : 0 ≤ d' ∧ d' ≤ 1048576 := by unfold isD at hdd; simpa using hdd
      obtain ⟨hd0, hd1⟩ := hd01
      have hms := ms_next hst hdd
      have hR' := fun w' (hb : Below w.heap.size w w') => hR d' w' hb hdd
      simp only [hdd] at hI
      clear hdd
      cases hrr : restsC (ownC c) d' with
      | true =>
        simp only [hrr] at hR' heq
        by_cases hpos : n' > 0
        · have hj := Lib.hid (show alF (restsC (ownC c)) step k' (d' + step) (n') = alongZ c d n step by rw [← hq.out, heq]; simp only [if_true, Bool.false_eq_true, if_false]; first | rw [if_pos hpos] | rw [if_neg hpos])
          have hposI : 0 < n' := hpos
          clear hq heq hrr
          have HK := Lib.hid hk
          have HMS := Lib.hid hms
          clear hk hms hpos
          go_wp2_with (first | (go_at_call 33; refine (hI _).mono ?_; rintro e w' ⟨rfl, rfl⟩) | (go_at_call 43; refine (hR' _ (by (repeat' first | exact Below.refl _ _ | (with_reducible assumption) | (with_reducible refine bAlloc (by first | omega | (simp <;> omega)) ?_) | (with_reducible refine bSet (by first | omega | (simp <;> omega)) ?_) | (with_reducible refine bDrew ?_) | (with_reducible refine bDrewN ?_) | (with_reducible refine bTrans (by with_reducible assumption) (by first | omega | (simp <;> omega)) ?_)))).mono ?_; rintro e w1 ⟨rfl, hxb⟩; (obtain ⟨hxc, hxf⟩ := bcell hxb; have hxz := hxb.size; (try simp [Nat.succ_le_iff] at hxz); (try have hxy := Nat.lt_of_succ_lt hxz); (try have hxy2 := Nat.lt_of_succ_lt hxy); (try have hxy3 := Nat.lt_of_succ_lt hxy2); (try have hxy4 := Nat.lt_of_succ_lt hxy3); have hxB : Below w.heap.size w w1 := (by (repeat' first | exact Below.refl _ _ | (with_reducible assumption) | (with_reducible refine bAlloc (by first | omega | (simp <;> omega)) ?_) | (with_reducible refine bSet (by first | omega | (simp <;> omega)) ?_) | (with_reducible refine bDrew ?_) | (with_reducible refine bDrewN ?_) | (with_reducible refine bTrans (by with_reducible assumption) (by first | omega | (simp <;> omega)) ?_))); have hxk := below_all hxB; (try have hxl0 : w.heap.size < w1.heap.size := (by omega)); (try have hxl1 : w.heap.size + 1 < w1.heap.size := (by omega)); (try have hxl2 : w.heap.size + 2 < w1.heap.size := (by omega)))))
          all_goals (go_step3; go_light; refine ⟨rfl, ⟨k', d' + step, n', _, _, _, _, _, _, _, _, _, _, _, _, _, _, _, _, _, rfl, hW0.next hxb, ⟨by omega, by omega, by omega, by omega⟩, by have a := HK.out; have b := HMS.out; omega, hj.out⟩, by have a := HK.out; have b := HMS.out; simp [intOf]; omega⟩)
        · have hj := Lib.hid (show alongZ c d n step = (d', true) by rw [← hq.out, heq]; simp only [if_true, Bool.false_eq_true, if_false]; first | rw [if_pos hpos] | rw [if_neg hpos])
          have hposI : n' ≤ 0 := by omega
          clear hq heq hrr hk hms hpos
          go_wp2_with (first | (go_at_call 33; refine (hI _).mono ?_; rintro e w' ⟨rfl, rfl⟩) | (go_at_call 43; refine (hR' _ (by (repeat' first | exact Below.refl _ _ | (with_reducible assumption) | (with_reducible refine bAlloc (by first | omega | (simp <;> omega)) ?_) | (with_reducible refine bSet (by first | omega | (simp <;> omega)) ?_) | (with_reducible refine bDrew ?_) | (with_reducible refine bDrewN ?_) | (with_reducible refine bTrans (by with_reducible assumption) (by first | omega | (simp <;> omega)) ?_)))).mono ?_; rintro e w1 ⟨rfl, hxb⟩; (obtain ⟨hxc, hxf⟩ := bcell hxb; have hxz := hxb.size; (try simp [Nat.succ_le_iff] at hxz); (try have hxy := Nat.lt_of_succ_lt hxz); (try have hxy2 := Nat.lt_of_succ_lt hxy); (try have hxy3 := Nat.lt_of_succ_lt hxy2); (try have hxy4 := Nat.lt_of_succ_lt hxy3); have hxB : Below w.heap.size w w1 := (by (repeat' first | exact Below.refl _ _ | (with_reducible assumption) | (with_reducible refine bAlloc (by first | omega | (simp <;> omega)) ?_) | (with_reducible refine bSet (by first | omega | (simp <;> omega)) ?_) | (with_reducible refine bDrew ?_) | (with_reducible refine bDrewN ?_) | (with_reducible refine bTrans (by with_reducible assumption) (by first | omega | (simp <;> omega)) ?_))); have hxk := below_all hxB; (try have hxl0 : w.heap.size < w1.heap.size := (by omega)); (try have hxl1 : w.heap.size + 1 < w1.heap.size := (by omega)); (try have hxl2 : w.heap.size + 2 < w1.heap.size := (by omega)))))
          all_goals (simp only [Exit.jump]; go_ret2; go_light; rw [hj.out]; exact ⟨rfl, by (repeat' first | exact Below.refl _ _ | (with_reducible assumption) | (with_reducible refine bAlloc (by first | omega | (simp <;> omega)) ?_) | (with_reducible refine bSet (by first | omega | (simp <;> omega)) ?_) | (with_reducible refine bDrew ?_) | (with_reducible refine bDrewN ?_) | (with_reducible refine bTrans (by with_reducible assumption) (by first | omega | (simp <;> omega)) ?_))⟩)
      | false =>
        simp only [hrr] at hR' heq
        by_cases hpos : n' - 1 > 0
        · have hj := Lib.hid (show alF (restsC (ownC c)) step k' (d' + step) (n' - 1) = alongZ c d n step by rw [← hq.out, heq]; simp only [if_true, Bool.false_eq_true, if_false]; first | rw [if_pos hpos] | rw [if_neg hpos])
          have hposI : 0 < n' - 1 := hpos
          clear hq heq hrr
          have HK := Lib.hid hk
          have HMS := Lib.hid hms
          clear hk hms hpos
          go_wp2_with (first | (go_at_call 33; refine (hI _).mono ?_; rintro e w' ⟨rfl, rfl⟩) | (go_at_call 43; refine (hR' _ (by (repeat' first | exact Below.refl _ _ | (with_reducible assumption) | (with_reducible refine bAlloc (by first | omega | (simp <;> omega)) ?_) | (with_reducible refine bSet (by first | omega | (simp <;> omega)) ?_) | (with_reducible refine bDrew ?_) | (with_reducible refine bDrewN ?_) | (with_reducible refine bTrans (by with_reducible assumption) (by first | omega | (simp <;> omega)) ?_)))).mono ?_; rintro e w1 ⟨rfl, hxb⟩; (obtain ⟨hxc, hxf⟩ := bcell hxb; have hxz := hxb.size; (try simp [Nat.succ_le_iff] at hxz); (try have hxy := Nat.lt_of_succ_lt hxz); (try have hxy2 := Nat.lt_of_succ_lt hxy); (try have hxy3 := Nat.lt_of_succ_lt hxy2); (try have hxy4 := Nat.lt_of_succ_lt hxy3); have hxB : Below w.heap.size w w1 := (by (repeat' first | exact Below.refl _ _ | (with_reducible assumption) | (with_reducible refine bAlloc (by first | omega | (simp <;> omega)) ?_) | (with_reducible refine bSet (by first | omega | (simp <;> omega)) ?_) | (with_reducible refine bDrew ?_) | (with_reducible refine bDrewN ?_) | (with_reducible refine bTrans (by with_reducible assumption) (by first | omega | (simp <;> omega)) ?_))); have hxk := below_all hxB; (try have hxl0 : w.heap.size < w1.heap.size := (by omega)); (try have hxl1 : w.heap.size + 1 < w1.heap.size := (by omega)); (try have hxl2 : w.heap.size + 2 < w1.heap.size := (by omega)))))
          all_goals (go_step3; go_light; refine ⟨rfl, ⟨k', d' + step, n' - 1, _, _, _, _, _, _, _, _, _, _, _, _, _, _, _, _, _, rfl, hW0.next hxb, ⟨by omega, by omega, by omega, by omega⟩, by have a := HK.out; have b := HMS.out; omega, hj.out⟩, by have a := HK.out; have b := HMS.out; simp [intOf]; omega⟩)
        · have hj := Lib.hid (show alongZ c d n step = (d', true) by rw [← hq.out, heq]; simp only [if_true, Bool.false_eq_true, if_false]; first | rw [if_pos hpos] | rw [if_neg hpos])
          have hposI : n' - 1 ≤ 0 := by omega
          clear hq heq hrr hk hms hpos
          go_wp2_with (first | (go_at_call 33; refine (hI _).mono ?_; rintro e w' ⟨rfl, rfl⟩) | (go_at_call 43; refine (hR' _ (by (repeat' first | exact Below.refl _ _ | (with_reducible assumption) | (with_reducible refine bAlloc (by first | omega | (simp <;> omega)) ?_) | (with_reducible refine bSet (by first | omega | (simp <;> omega)) ?_) | (with_reducible refine bDrew ?_) | (with_reducible refine bDrewN ?_) | (with_reducible refine bTrans (by with_reducible assumption) (by first | omega | (simp <;> omega)) ?_)))).mono ?_; rintro e w1 ⟨rfl, hxb⟩; (obtain ⟨hxc, hxf⟩ := bcell hxb; have hxz := hxb.size; (try simp [Nat.succ_le_iff] at hxz); (try have hxy := Nat.lt_of_succ_lt hxz); (try have hxy2 := Nat.lt_of_succ_lt hxy); (try have hxy3 := Nat.lt_of_succ_lt hxy2); (try have hxy4 := Nat.lt_of_succ_lt hxy3); have hxB : Below w.heap.size w w1 := (by (repeat' first | exact Below.refl _ _ | (with_reducible assumption) | (with_reducible refine bAlloc (by first | omega | (simp <;> omega)) ?_) | (with_reducible refine bSet (by first | omega | (simp <;> omega)) ?_) | (with_reducible refine bDrew ?_) | (with_reducible refine bDrewN ?_) | (with_reducible refine bTrans (by with_reducible assumption) (by first | omega | (simp <;> omega)) ?_))); have hxk := below_all hxB; (try have hxl0 : w.heap.size < w1.heap.size := (by omega)); (try have hxl1 : w.heap.size + 1 < w1.heap.size := (by omega)); (try have hxl2 : w.heap.size + 2 < w1.heap.size := (by omega)))))
          all_goals (simp only [Exit.jump]; go_ret2; go_light; rw [hj.out]; exact ⟨rfl, by (repeat' first | exact Below.refl _ _ | (with_reducible assumption) | (with_reducible refine bAlloc (by first | omega | (simp <;> omega)) ?_) | (with_reducible refine bSet (by first | omega | (simp <;> omega)) ?_) | (with_reducible refine bDrew ?_) | (with_reducible refine bDrewN ?_) | (with_reducible refine bTrans (by with_reducible assumption) (by first | omega | (simp <;> omega)) ?_))⟩)
end Go.Proofs.YtpgldnjejnigiaaDoor
