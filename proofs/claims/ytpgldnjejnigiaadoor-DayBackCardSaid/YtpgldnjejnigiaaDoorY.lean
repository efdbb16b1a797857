/-
  Days: Between; the reference's.
-/
import Derived.Test.YtpgldnjejnigiaaDoorL
import Derived.Test.YtpgldnjejnigiaaDoorX
namespace Go.Proofs.YtpgldnjejnigiaaDoor
open Go.RowKit

/-- the number of holidays among the first ones that are ahead, and no weekday that rests -/
def holF (rest : List Int) (x : Int) (l : List Int) : Nat := (l.filter fun h => decide (h < x) && !hasI rest (h % 7)).length
theorem holF_snoc (rest : List Int) (x : Int) (l : List Int) (h : Int) : holF rest x (l ++ [h]) = holF rest x l + if h < x ∧ hasI rest (h % 7) = false then 1 else 0 := by
  unfold holF
  rw [List.filter_append, List.length_append]
  congr 1
  by_cases h1 : h < x <;> cases h2 : hasI rest (h % 7) <;> simp [List.filter_cons, h1, h2]
theorem take_snoc (l : List Int) (k : Nat) (h : k < l.length) : l.take (k + 1) = l.take k ++ [l[k]] := by
  rw [List.take_succ_eq_append_getElem h]
theorem wk_le (r : Int → Bool) : ∀ n, wk r n ≤ n
  | 0 => Nat.le_refl _
  | n + 1 => by have := wk_le r n; rw [wk]; split <;> omega
set_option maxHeartbeats 1000000 in
set_option maxRecDepth 100000 in
theorem aheadW (x : Cv) (c : Cal) (d : Int) (w : World) (hr : Rc w x c) (hm : mayB c = true) (d0 : 0 ≤ d) (d1 : d ≤ 1048577) (h60 : c.hol.length ≤ 4096) :
    Calls Tryd.prog 46 #[x.v, .int .i64 d] w fun e w' => e = .returned (.int .i64 (ahZ c.rest c.hol d)) ∧ Below w.heap.size w w' := by
  obtain ⟨m1, m2, m3, m4⟩ := may_rest hm
  have h7 := wk_week c.rest m1 m2
  have hl7 : c.rest.length ≤ 7 := by omega
  obtain ⟨A1, n1, c1, A2, n2, c2⟩ := x
  obtain ⟨rest, hol⟩ := c
  obtain ⟨r1, r2, b1, b2⟩ := hr
  simp only at *
  obtain rfl := r1.len
  obtain rfl := r2.len
  have HZ := Lib.hid (show ahZ rest hol d = d / 7 * (7 - rest.length) + wk (hasI rest) (d % 7).toNat - holF rest d hol from rfl)
  have hmul := Lib.hid (show 0 ≤ d / 7 * (7 - (rest.length : Int)) ∧ d / 7 * (7 - (rest.length : Int)) ≤ 1048577 * 7 by
    have h1 : 0 ≤ d / 7 := by omega
    have h2 : d / 7 ≤ 1048577 := by omega
    have h3 : 0 ≤ 7 - (rest.length : Int) := by omega
    have h4 : 7 - (rest.length : Int) ≤ 7 := by omega
    exact ⟨Int.mul_nonneg h1 h3, Int.mul_le_mul h2 h4 h3 (by omega)⟩)
  have hd7 : 0 ≤ d % 7 ∧ d % 7 < 7 := by omega
  obtain ⟨q, hq⟩ : ∃ q : Nat, d % 7 = q := ⟨(d % 7).toNat, by omega⟩
  have HQ := Lib.hid hq
  obtain ⟨mu0, mu1⟩ := hmul.out
  have HR1 := Lib.hid r1
  have HR2 := Lib.hid r2
  have M4 := Lib.hid m4
  clear h7 m1 m2 m3 m4 hm hd7 hq r1 r2
  go_enter Tryd.func46, Tryd.ntmps46
  go_wp2_with fail
  rw [HQ.out]
  have hq6 : q ≤ 6 := by have := HQ.out; omega
  generalize d / 7 * (7 - (rest.length : Int)) = M at *
  clear hmul
  go_loop [5, 6, 18] (fun nn _ i => ∃ j : Nat, j ≤ q ∧ i = .int .i64 j ∧ nn = .int .i64 (M + wk (hasI rest) j)) (fun _ _ i => q - (intOf i).toNat)
  case atStart => exact ⟨0, by omega, rfl, by simp [wk]⟩
  case round =>
    obtain ⟨j, hj, rfl, rfl⟩ := hrel
    have hwl := wk_le (hasI rest) j
    by_cases hlt : j < q
    · have hs := Lib.hid (show wk (hasI rest) (j + 1) = wk (hasI rest) j + if hasI rest j then 0 else 1 from rfl)
      have hC := fun w' (hb : Below w.heap.size w w') => containsW A1 rest.length c1 rest j w' (HR1.out.next hb) b1
      generalize wk (hasI rest) j = G at *
      cases hh : hasI rest j
      all_goals
        rw [hh] at hs
        simp only [hh] at hC
        clear hh
        go_wp2_with (go_at_call 56; refine (hC _ (by (repeat' first | exact Below.refl _ _ | (with_reducible assumption) | (with_reducible refine bAlloc (by first | omega | (simp <;> omega)) ?_) | (with_reducible refine bSet (by first | omega | (simp <;> omega)) ?_) | (with_reducible refine bDrew ?_) | (with_reducible refine bDrewN ?_) | (with_reducible refine bTrans (by with_reducible assumption) (by first | omega | (simp <;> omega)) ?_)))).mono ?_; rintro e w' ⟨rfl, rfl⟩)
        go_round
        case rel => exact ⟨j + 1, by omega, by go_num, by rw [hs.out]; simp <;> omega⟩
        case measure => simp [intOf]; omega
    · obtain rfl : j = q := by omega
      have HZ2 := Lib.hid (show ahZ rest hol d = M + wk (hasI rest) j - holF rest d hol by rw [HZ.out, HQ.out]; rfl)
      generalize wk (hasI rest) j = G at *
      clear HZ HQ hlt
      obtain ⟨N, hN⟩ : ∃ N : Int, M + (G : Int) = N := ⟨_, rfl⟩
      have hN0 : 0 ≤ N := by omega
      have hN1 : N ≤ 8000000 := by omega
      rw [hN] at HZ2 ⊢
      clear hN hwl mu0 mu1
      go_wp2
      go_loop [5, 8, 32] (fun nn _ i => ∃ k : Nat, k ≤ hol.length ∧ i = .int .i64 k ∧ nn = .int .i64 (N - holF rest d (hol.take k))) (fun _ _ i => hol.length - (intOf i).toNat)
      case atStart => exact ⟨0, by omega, rfl, by simp [holF]⟩
      case round =>
        obtain ⟨k, hk, rfl, rfl⟩ := hrel
        have hfl : holF rest d (hol.take k) ≤ 4096 := Nat.le_trans (List.length_filter_le _ _) (by rw [List.length_take]; omega)
        by_cases hlt : k < hol.length
        · obtain ⟨b, off, rfl, hb, hc⟩ := HR2.out.cell (by omega)
          have hc0 := hc k hlt
          have hk0 : 0 ≤ hol[k] := M4.out _ (List.getElem_mem hlt)
          have hs := Lib.hid (show holF rest d (hol.take (k + 1)) = holF rest d (hol.take k) + if hol[k] < d ∧ hasI rest (hol[k] % 7) = false then 1 else 0 by rw [take_snoc _ _ hlt, holF_snoc])
          have hC := fun (v : Int) w' (hb : Below w.heap.size w w') => containsW A1 rest.length c1 rest v w' (HR1.out.next hb) b1
          clear hc
          generalize holF rest d (hol.take k) = G2 at *
          generalize hol[k] = h at *
          have hC1 := hC (h % 7)
          clear hC
          by_cases hd : h < d
          · have hdB : decide (h < d) = true := decide_eq_true hd
            cases hh : hasI rest (h % 7)
            all_goals
              rw [hh] at hs
              simp only [hh] at hC1
              clear hh
              go_wp2_with (go_at_call 56; refine (hC1 _ (by (repeat' first | exact Below.refl _ _ | (with_reducible assumption) | (with_reducible refine bAlloc (by first | omega | (simp <;> omega)) ?_) | (with_reducible refine bSet (by first | omega | (simp <;> omega)) ?_) | (with_reducible refine bDrew ?_) | (with_reducible refine bDrewN ?_) | (with_reducible refine bTrans (by with_reducible assumption) (by first | omega | (simp <;> omega)) ?_)))).mono ?_; rintro e w' ⟨rfl, rfl⟩)
              go_round
              case rel => exact ⟨k + 1, by omega, by go_num, by rw [hs.out]; simp [hd] <;> omega⟩
              case measure => simp [intOf]; omega
          · have hdB : decide (h < d) = false := decide_eq_false hd
            go_wp2
            go_round
            case rel => exact ⟨k + 1, by omega, by go_num, by rw [hs.out]; simp [hd]⟩
            case measure => simp [intOf]; omega
        · obtain rfl : k = hol.length := by omega
          rw [List.take_length] at hfl ⊢
          generalize holF rest d hol = G2 at *
          go_wp2
          go_ret
          rw [HZ2.out]
          exact ⟨rfl, by (repeat' first | exact Below.refl _ _ | (with_reducible assumption) | (with_reducible refine bAlloc (by first | omega | (simp <;> omega)) ?_) | (with_reducible refine bSet (by first | omega | (simp <;> omega)) ?_) | (with_reducible refine bDrew ?_) | (with_reducible refine bDrewN ?_) | (with_reducible refine bTrans (by with_reducible assumption) (by first | omega | (simp <;> omega)) ?_))⟩
end Go.Proofs.YtpgldnjejnigiaaDoor
