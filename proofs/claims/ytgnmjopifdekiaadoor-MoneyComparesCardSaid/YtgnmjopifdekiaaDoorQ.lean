/-
  Money: Reduce, and the reference's Compare and Reduce, walked.
-/
import Derived.Test.YtgnmjopifdekiaaDoorB
import Derived.Test.YtgnmjopifdekiaaDoorPx
import Derived.Test.YtgnmjopifdekiaaDoorHeld
namespace Go.Proofs.YtgnmjopifdekiaaDoor
set_option linter.unusedVariables false
set_option linter.unusedSimpArgs false
open Go.RowKit

theorem gcdZ_step {a b : Int} (ha : 0 ≤ a) (hb : 0 ≤ b) : gcdZ b (a % b) = gcdZ a b := by
  obtain ⟨x, rfl⟩ := Int.eq_ofNat_of_zero_le ha
  obtain ⟨y, rfl⟩ := Int.eq_ofNat_of_zero_le hb
  unfold gcdZ
  rw [← Int.natCast_emod, Int.toNat_natCast, Int.toNat_natCast, Int.toNat_natCast, gcd_step]
theorem gcdZ_zero {a : Int} (ha : 0 ≤ a) : gcdZ a 0 = a := by
  obtain ⟨x, rfl⟩ := Int.eq_ofNat_of_zero_le ha
  unfold gcdZ
  simp
def redR (n d : Int) : Value := if fracB n d then .tuple #[rv (n / gcdZ n d) (d / gcdZ n d), .bool true] else .tuple #[rv 0 0, .bool false]
set_option maxHeartbeats 1000000 in
theorem reduceW (n d : Int) (w : World) (hn : n ≤ 9223372036854775807) (hd : d ≤ 9223372036854775807) :
    Calls Tryd.prog 25 #[rv n d] w fun e w' => e = .returned (redR n d) ∧ Below w.heap.size w w' := by
  have hF := fun w => fractionW n d w
  have hWn := Hd.nil (w := w)
  cases hf : fracB n d with
  | false =>
    have he := Lib.hid (show redR n d = .tuple #[rv 0 0, .bool false] by unfold redR; rw [hf]; rfl)
    simp only [hf] at hF
    clear hf
    go_enter Tryd.func25, Tryd.ntmps25
    go_wp2_with (go_at_call 28; (with_reducible refine (hF _).mono ?_); rintro e w1 ⟨rfl, hxb⟩; replace hWn := Hd.next (w := w) (by (repeat' first | (with_reducible exact hWn) | (with_reducible refine Hd.drew (L := ?_) ?_) | (with_reducible refine Hd.drewN (L := ?_) ?_ _) | (with_reducible refine Hd.box (L := ?_) ?_) | (with_reducible refine Hd.skip (L := ?_) ?_) | (with_reducible refine Hd.set (L := ?_) ?_ ?_) | (with_reducible exact Hd.nil) | (with_reducible exact Nat.le_refl _) | (show _ ≤ _; first | omega | (simp; done) | (simp; omega)))) hxb; clear hxb; (try clear hxq); (try clear hxB); (try clear hxk); ((try clear hxs); have hxs := hWn.so; simp only [hdSorted, hdAbove, hdPut, World.size_alloc, World.size_drew, size_drewN', World.size_setCell, Nat.zero_add, Nat.reduceAdd, and_true, true_and, and_assoc] at hxs; have hxq := hWn.all; simp only [hdAll, hdCells, hdPut, hxs, Nat.ne_of_gt, Nat.ne_of_lt, ↓reduceIte, eq_self, Nat.add_eq_left, Nat.left_eq_add, Nat.add_right_cancel_iff, Nat.reduceEqDiff, List.set_cons_zero, List.set_cons_succ, Nat.succ_ne_self, Nat.one_ne_zero, World.size_alloc, World.size_drew, size_drewN', World.size_setCell, Nat.zero_add, Nat.reduceAdd, and_true, true_and, and_assoc] at hxq; have hxB := hWn.hB); have hxk := below_all hxB)
    refine bodyPost_ret (v := .tuple #[rv 0 0, .bool false]) (by simp [results, Tryd.results25, go_sem, hxq]) rfl ⟨by rw [he.out], by (repeat' first | exact Below.refl _ _ | (with_reducible assumption) | (with_reducible refine bAlloc (by first | omega | (simp <;> omega)) ?_) | (with_reducible refine bSet (by first | omega | (simp <;> omega)) ?_) | (with_reducible refine bDrew ?_) | (with_reducible refine bDrewN ?_) | (with_reducible refine bTrans (by with_reducible assumption) (by first | omega | (simp <;> omega)) ?_))⟩
  | true =>
    obtain ⟨n0, d0⟩ := fracB_iff.1 hf
    have he := Lib.hid (show redR n d = .tuple #[rv (n / gcdZ n d) (d / gcdZ n d), .bool true] by unfold redR; rw [hf]; rfl)
    obtain ⟨g0, g1, -, -, -, -⟩ := gcd_facts n0 d0
    simp only [hf] at hF
    clear hf
    obtain ⟨G, hG⟩ : ∃ G, gcdZ n d = G := ⟨_, rfl⟩
    rw [hG] at he g0 g1
    have HG := Lib.hid hG
    clear hG
    go_enter Tryd.func25, Tryd.ntmps25
    go_wp2_with (go_at_call 28; (with_reducible refine (hF _).mono ?_); rintro e w1 ⟨rfl, hxb⟩; replace hWn := Hd.next (w := w) (by (repeat' first | (with_reducible exact hWn) | (with_reducible refine Hd.drew (L := ?_) ?_) | (with_reducible refine Hd.drewN (L := ?_) ?_ _) | (with_reducible refine Hd.box (L := ?_) ?_) | (with_reducible refine Hd.skip (L := ?_) ?_) | (with_reducible refine Hd.set (L := ?_) ?_ ?_) | (with_reducible exact Hd.nil) | (with_reducible exact Nat.le_refl _) | (show _ ≤ _; first | omega | (simp; done) | (simp; omega)))) hxb; clear hxb; (try clear hxq); (try clear hxB); (try clear hxk); ((try clear hxs); have hxs := hWn.so; simp only [hdSorted, hdAbove, hdPut, World.size_alloc, World.size_drew, size_drewN', World.size_setCell, Nat.zero_add, Nat.reduceAdd, and_true, true_and, and_assoc] at hxs; have hxq := hWn.all; simp only [hdAll, hdCells, hdPut, hxs, Nat.ne_of_gt, Nat.ne_of_lt, ↓reduceIte, eq_self, Nat.add_eq_left, Nat.left_eq_add, Nat.add_right_cancel_iff, Nat.reduceEqDiff, List.set_cons_zero, List.set_cons_succ, Nat.succ_ne_self, Nat.one_ne_zero, World.size_alloc, World.size_drew, size_drewN', World.size_setCell, Nat.zero_add, Nat.reduceAdd, and_true, true_and, and_assoc] at hxq; have hxB := hWn.hB); have hxk := below_all hxB)
    go_quiet (fail)
    go_wp2
    go_loopw [4, 5] (fun a b W => ∃ x y : Int, 0 ≤ x ∧ x ≤ 9223372036854775807 ∧ 0 ≤ y ∧ y ≤ 9223372036854775807 ∧ a = .int .i64 x ∧ b = .int .i64 y ∧ Hid (gcdZ x y = G) ∧ Hd w W [(w.heap.size + 1, [.int .i64 0, .int .i64 0]), (w.heap.size, [.int .i64 n, .int .i64 d])]) (fun _ b _ => (intOf b).toNat)
    case atStart => exact ⟨n, d, n0, hn, by omega, hd, rfl, rfl, HG, by simpa only [World.size_alloc] using hWn.drewN nq⟩
    case round =>
      clear hWn hxq hxB hxk
      obtain ⟨x, y, x0, x1, y0, y1, rfl, rfl, hg, hWn⟩ := hrel
      ((try clear hxs); have hxs := hWn.so; simp only [hdSorted, hdAbove, hdPut, World.size_alloc, World.size_drew, size_drewN', World.size_setCell, Nat.zero_add, Nat.reduceAdd, and_true, true_and, and_assoc] at hxs; have hxq := hWn.all; simp only [hdAll, hdCells, hdPut, hxs, Nat.ne_of_gt, Nat.ne_of_lt, ↓reduceIte, eq_self, Nat.add_eq_left, Nat.left_eq_add, Nat.add_right_cancel_iff, Nat.reduceEqDiff, List.set_cons_zero, List.set_cons_succ, Nat.succ_ne_self, Nat.one_ne_zero, World.size_alloc, World.size_drew, size_drewN', World.size_setCell, Nat.zero_add, Nat.reduceAdd, and_true, true_and, and_assoc] at hxq; have hxB := hWn.hB)
      have hs := Lib.hid (gcdZ_step x0 y0)
      by_cases hy : 0 < y
      · have m0 := Int.emod_nonneg x (show y ≠ 0 by omega)
        have m1 := Int.emod_lt_of_pos x hy
        go_wp2
        go_quiet (fail)
        go_wp2
        go_roundw
        case rel => exact ⟨y, x % y, y0, y1, m0, by omega, rfl, rfl, Lib.hid (hs.out.trans hg.out), by (repeat' first | (with_reducible exact hWn) | (with_reducible refine Hd.drew (L := ?_) ?_) | (with_reducible refine Hd.drewN (L := ?_) ?_ _) | (with_reducible refine Hd.box (L := ?_) ?_) | (with_reducible refine Hd.skip (L := ?_) ?_) | (with_reducible refine Hd.set (L := ?_) ?_ ?_) | (with_reducible exact Hd.nil) | (with_reducible exact Nat.le_refl _) | (show _ ≤ _; first | omega | (simp; done) | (simp; omega)))⟩
        case measure => simp [intOf]; omega
      · obtain rfl : y = 0 := by omega
        obtain rfl : x = G := by have := hg.out; rwa [gcdZ_zero x0] at this
        clear hg hs
        have q0 := Int.ediv_nonneg n0 x0
        have q1 := Int.ediv_nonneg (show 0 ≤ d by omega) x0
        go_wp2
        go_region
        all_goals
          go_wp2
          refine bodyPost_ret (v := .tuple #[rv (n / x) (d / x), .bool true]) (by simp [results, Tryd.results25, go_sem, hxq]) rfl ⟨by rw [he.out], by (repeat' first | exact Below.refl _ _ | (with_reducible assumption) | (with_reducible refine bAlloc (by first | omega | (simp <;> omega)) ?_) | (with_reducible refine bSet (by first | omega | (simp <;> omega)) ?_) | (with_reducible refine bDrew ?_) | (with_reducible refine bDrewN ?_) | (with_reducible refine bTrans (by with_reducible assumption) (by first | omega | (simp <;> omega)) ?_))⟩

set_option maxHeartbeats 1000000 in
theorem refReduceW (n d : Int) (w : World) (hn : n ≤ 9223372036854775807) (hd : d ≤ 9223372036854775807) :
    Calls Tryd.prog 26 #[rv n d] w fun e w' => e = .returned (redR n d) ∧ Below w.heap.size w w' := by
  have hF := fun w => refRightW n d w
  have hWn := Hd.nil (w := w)
  cases hf : fracB n d with
  | false =>
    have he := Lib.hid (show redR n d = .tuple #[rv 0 0, .bool false] by unfold redR; rw [hf]; rfl)
    simp only [hf] at hF
    clear hf
    go_enter Tryd.func26, Tryd.ntmps26
    go_wp2_with (go_at_call 32; (with_reducible refine (hF _).mono ?_); rintro e w1 ⟨rfl, hxb⟩; replace hWn := Hd.next (w := w) (by (repeat' first | (with_reducible exact hWn) | (with_reducible refine Hd.drew (L := ?_) ?_) | (with_reducible refine Hd.drewN (L := ?_) ?_ _) | (with_reducible refine Hd.box (L := ?_) ?_) | (with_reducible refine Hd.skip (L := ?_) ?_) | (with_reducible refine Hd.set (L := ?_) ?_ ?_) | (with_reducible exact Hd.nil) | (with_reducible exact Nat.le_refl _) | (show _ ≤ _; first | omega | (simp; done) | (simp; omega)))) hxb; clear hxb; (try clear hxq); (try clear hxB); (try clear hxk); ((try clear hxs); have hxs := hWn.so; simp only [hdSorted, hdAbove, hdPut, World.size_alloc, World.size_drew, size_drewN', World.size_setCell, Nat.zero_add, Nat.reduceAdd, and_true, true_and, and_assoc] at hxs; have hxq := hWn.all; simp only [hdAll, hdCells, hdPut, hxs, Nat.ne_of_gt, Nat.ne_of_lt, ↓reduceIte, eq_self, Nat.add_eq_left, Nat.left_eq_add, Nat.add_right_cancel_iff, Nat.reduceEqDiff, List.set_cons_zero, List.set_cons_succ, Nat.succ_ne_self, Nat.one_ne_zero, World.size_alloc, World.size_drew, size_drewN', World.size_setCell, Nat.zero_add, Nat.reduceAdd, and_true, true_and, and_assoc] at hxq; have hxB := hWn.hB); have hxk := below_all hxB)
    refine bodyPost_ret (v := .tuple #[rv 0 0, .bool false]) (by simp [results, Tryd.results26, go_sem, hxq]) rfl ⟨by rw [he.out], by (repeat' first | exact Below.refl _ _ | (with_reducible assumption) | (with_reducible refine bAlloc (by first | omega | (simp <;> omega)) ?_) | (with_reducible refine bSet (by first | omega | (simp <;> omega)) ?_) | (with_reducible refine bDrew ?_) | (with_reducible refine bDrewN ?_) | (with_reducible refine bTrans (by with_reducible assumption) (by first | omega | (simp <;> omega)) ?_))⟩
  | true =>
    obtain ⟨n0, d0⟩ := fracB_iff.1 hf
    have he := Lib.hid (show redR n d = .tuple #[rv (n / gcdZ n d) (d / gcdZ n d), .bool true] by unfold redR; rw [hf]; rfl)
    obtain ⟨g0, g1, -, -, -, -⟩ := gcd_facts n0 d0
    simp only [hf] at hF
    clear hf
    obtain ⟨G, hG⟩ : ∃ G, gcdZ n d = G := ⟨_, rfl⟩
    rw [hG] at he g0 g1
    have HG := Lib.hid hG
    clear hG
    go_enter Tryd.func26, Tryd.ntmps26
    go_wp2_with (go_at_call 32; (with_reducible refine (hF _).mono ?_); rintro e w1 ⟨rfl, hxb⟩; replace hWn := Hd.next (w := w) (by (repeat' first | (with_reducible exact hWn) | (with_reducible refine Hd.drew (L := ?_) ?_) | (with_reducible refine Hd.drewN (L := ?_) ?_ _) | (with_reducible refine Hd.box (L := ?_) ?_) | (with_reducible refine Hd.skip (L := ?_) ?_) | (with_reducible refine Hd.set (L := ?_) ?_ ?_) | (with_reducible exact Hd.nil) | (with_reducible exact Nat.le_refl _) | (show _ ≤ _; first | omega | (simp; done) | (simp; omega)))) hxb; clear hxb; (try clear hxq); (try clear hxB); (try clear hxk); ((try clear hxs); have hxs := hWn.so; simp only [hdSorted, hdAbove, hdPut, World.size_alloc, World.size_drew, size_drewN', World.size_setCell, Nat.zero_add, Nat.reduceAdd, and_true, true_and, and_assoc] at hxs; have hxq := hWn.all; simp only [hdAll, hdCells, hdPut, hxs, Nat.ne_of_gt, Nat.ne_of_lt, ↓reduceIte, eq_self, Nat.add_eq_left, Nat.left_eq_add, Nat.add_right_cancel_iff, Nat.reduceEqDiff, List.set_cons_zero, List.set_cons_succ, Nat.succ_ne_self, Nat.one_ne_zero, World.size_alloc, World.size_drew, size_drewN', World.size_setCell, Nat.zero_add, Nat.reduceAdd, and_true, true_and, and_assoc] at hxq; have hxB := hWn.hB); have hxk := below_all hxB)
    go_quiet (fail)
    go_wp2
    go_loopw [4, 5] (fun a b W => ∃ x y : Int, 0 ≤ x ∧ x ≤ 9223372036854775807 ∧ 0 ≤ y ∧ y ≤ 9223372036854775807 ∧ a = .int .i64 x ∧ b = .int .i64 y ∧ Hid (gcdZ x y = G) ∧ Hd w W [(w.heap.size + 1, [.int .i64 0, .int .i64 0]), (w.heap.size, [.int .i64 n, .int .i64 d])]) (fun _ b _ => (intOf b).toNat)
    case atStart => exact ⟨n, d, n0, hn, by omega, hd, rfl, rfl, HG, by simpa only [World.size_alloc] using hWn.drewN nq⟩
    case round =>
      clear hWn hxq hxB hxk
      obtain ⟨x, y, x0, x1, y0, y1, rfl, rfl, hg, hWn⟩ := hrel
      ((try clear hxs); have hxs := hWn.so; simp only [hdSorted, hdAbove, hdPut, World.size_alloc, World.size_drew, size_drewN', World.size_setCell, Nat.zero_add, Nat.reduceAdd, and_true, true_and, and_assoc] at hxs; have hxq := hWn.all; simp only [hdAll, hdCells, hdPut, hxs, Nat.ne_of_gt, Nat.ne_of_lt, ↓reduceIte, eq_self, Nat.add_eq_left, Nat.left_eq_add, Nat.add_right_cancel_iff, Nat.reduceEqDiff, List.set_cons_zero, List.set_cons_succ, Nat.succ_ne_self, Nat.one_ne_zero, World.size_alloc, World.size_drew, size_drewN', World.size_setCell, Nat.zero_add, Nat.reduceAdd, and_true, true_and, and_assoc] at hxq; have hxB := hWn.hB)
      have hs := Lib.hid (gcdZ_step x0 y0)
      by_cases hy : 0 < y
      · have m0 := Int.emod_nonneg x (show y ≠ 0 by omega)
        have m1 := Int.emod_lt_of_pos x hy
        go_wp2
        go_quiet (fail)
        go_wp2
        go_roundw
        case rel => exact ⟨y, x % y, y0, y1, m0, by omega, rfl, rfl, Lib.hid (hs.out.trans hg.out), by (repeat' first | (with_reducible exact hWn) | (with_reducible refine Hd.drew (L := ?_) ?_) | (with_reducible refine Hd.drewN (L := ?_) ?_ _) | (with_reducible refine Hd.box (L := ?_) ?_) | (with_reducible refine Hd.skip (L := ?_) ?_) | (with_reducible refine Hd.set (L := ?_) ?_ ?_) | (with_reducible exact Hd.nil) | (with_reducible exact Nat.le_refl _) | (show _ ≤ _; first | omega | (simp; done) | (simp; omega)))⟩
        case measure => simp [intOf]; omega
      · obtain rfl : y = 0 := by omega
        obtain rfl : x = G := by have := hg.out; rwa [gcdZ_zero x0] at this
        clear hg hs
        have q0 := Int.ediv_nonneg n0 x0
        have q1 := Int.ediv_nonneg (show 0 ≤ d by omega) x0
        go_wp2
        go_region
        all_goals
          go_wp2
          refine bodyPost_ret (v := .tuple #[rv (n / x) (d / x), .bool true]) (by simp [results, Tryd.results26, go_sem, hxq]) rfl ⟨by rw [he.out], by (repeat' first | exact Below.refl _ _ | (with_reducible assumption) | (with_reducible refine bAlloc (by first | omega | (simp <;> omega)) ?_) | (with_reducible refine bSet (by first | omega | (simp <;> omega)) ?_) | (with_reducible refine bDrew ?_) | (with_reducible refine bDrewN ?_) | (with_reducible refine bTrans (by with_reducible assumption) (by first | omega | (simp <;> omega)) ?_))⟩

end Go.Proofs.YtgnmjopifdekiaaDoor
