/-
  Money: the reference's Parse, walked.
-/
import Derived.Test.YtgnmjopifdekiaaDoorPz
import Derived.Test.YtgnmjopifdekiaaDoorG
import Derived.Test.YtgnmjopifdekiaaDoorHeld
import Derived.RegionTactic
import Derived.ChangeAlike
namespace Go.Proofs.YtgnmjopifdekiaaDoor
set_option linter.unusedVariables false
set_option linter.unusedSimpArgs false
open Go.RowKit

theorem w64 (x : Int) : wrap64 x = IntKind.i64.wrap x := by rw [IntKind.wrap_i64]; unfold wrap64; omega
def resR : Option (ByteArray × Int) → Value
  | some (c, n) => .tuple #[mv c n, .bool true]
  | none => .tuple #[mv ⟨#[]⟩ 0, .bool false]
set_option maxHeartbeats 2000000 in
set_option maxRecDepth 100000 in
theorem refParseW (s : ByteArray) (hs : s.size ≤ 60) (w : World) :
    Calls Tryd.prog 18 #[.string s] w fun e w' => e = .returned (resR (parseM s)) ∧ Below w.heap.size w w' := by
  by_cases hz : s.size < 5 ∨ 24 < s.size
  · have he := Lib.hid (parse_small hz)
    rcases hz with hz | hz
    · have hz1 : (s.size : Int) < 5 := by omega
      clear hz
      go_enter Tryd.func18, Tryd.ntmps18
      go_wp2
      refine bodyPost_ret (v := .tuple #[mv ⟨#[]⟩ 0, .bool false]) (by simp [results, Tryd.results18, go_sem]) rfl ⟨by rw [he.out]; rfl, by (repeat' first | exact Below.refl _ _ | (with_reducible assumption) | (with_reducible refine bAlloc (by first | omega | (simp <;> omega)) ?_) | (with_reducible refine bSet (by first | omega | (simp <;> omega)) ?_) | (with_reducible refine bDrew ?_) | (with_reducible refine bDrewN ?_) | (with_reducible refine bTrans (by with_reducible assumption) (by first | omega | (simp <;> omega)) ?_))⟩
    · have hz1 : (24 : Int) < (s.size : Int) := by omega
      have hz2 : decide ((s.size : Int) < 5) = false := decide_eq_false (by omega)
      clear hz
      go_enter Tryd.func18, Tryd.ntmps18
      go_wp2
      refine bodyPost_ret (v := .tuple #[mv ⟨#[]⟩ 0, .bool false]) (by simp [results, Tryd.results18, go_sem]) rfl ⟨by rw [he.out]; rfl, by (repeat' first | exact Below.refl _ _ | (with_reducible assumption) | (with_reducible refine bAlloc (by first | omega | (simp <;> omega)) ?_) | (with_reducible refine bSet (by first | omega | (simp <;> omega)) ?_) | (with_reducible refine bDrew ?_) | (with_reducible refine bDrewN ?_) | (with_reducible refine bTrans (by with_reducible assumption) (by first | omega | (simp <;> omega)) ?_))⟩
  · have h5 : 5 ≤ s.size := by omega
    have h24 : s.size ≤ 24 := by omega
    have he := Lib.hid (parse_read h5)
    obtain ⟨C, hC⟩ : ∃ C, s.extract 0 3 = C := ⟨_, rfl⟩
    rw [hC] at he
    have i0 : decide ((s.size : Int) < 5) = false := decide_eq_false (by omega)
    have i1 : decide ((24 : Int) < (s.size : Int)) = false := decide_eq_false (by omega)
    have i2 : (3 : Int) ≤ (s.size : Int) := by omega
    clear hz
    go_enter Tryd.func18, Tryd.ntmps18
    go_wp2
    go_loopw [5] (fun i W => ∃ j : Nat, 4 ≤ j ∧ j ≤ s.size ∧ i = .int .i64 j ∧ Hd w W [(w.heap.size + 1, [.string C, .int .i64 (rdZ s (j - 4))]), (w.heap.size, [.string ⟨#[]⟩, .int .i64 0])]) (fun i _ => s.size - (intOf i).toNat)
    case atStart => exact ⟨4, by omega, by omega, rfl, (show Hd w _ _ from ((Hd.nil (w := w)).box (vs := [.string ⟨#[]⟩, .int .i64 0]) (t := 23)).box (vs := [.string C, .int .i64 0]) (t := 23)).cast (by simp [rdZ])⟩
    case round =>
      obtain ⟨j, j4, jz, rfl, hWn⟩ := hrel
      ((try clear hxs); have hxs := hWn.so; simp only [hdSorted, hdAbove, hdPut, World.size_alloc, World.size_drew, size_drewN', World.size_setCell, Nat.zero_add, Nat.reduceAdd, and_true, true_and, and_assoc] at hxs; have hxq := hWn.all; simp only [hdAll, hdCells, hdPut, hxs, Nat.ne_of_gt, Nat.ne_of_lt, ↓reduceIte, eq_self, Nat.add_eq_left, Nat.left_eq_add, Nat.add_right_cancel_iff, Nat.reduceEqDiff, List.set_cons_zero, List.set_cons_succ, Nat.succ_ne_self, Nat.one_ne_zero, World.size_alloc, World.size_drew, size_drewN', World.size_setCell, Nat.zero_add, Nat.reduceAdd, and_true, true_and, and_assoc] at hxq; have hxB := hWn.hB)
      by_cases hlt : j < s.size
      · have hst : rdZ s (j + 1 - 4) = if digI (byt s j) then IntKind.i64.wrap (IntKind.i64.wrap (IntKind.i64.wrap (10 * rdZ s (j - 4)) + byt s j) - 48) else rdZ s (j - 4) := by
          rw [show j + 1 - 4 = (j - 4) + 1 by omega, rdZ, show 4 + (j - 4) = j by omega]
        rw [byt_get s j hlt] at hst
        obtain ⟨X, hX⟩ : ∃ X, rdZ s (j - 4) = X := ⟨_, rfl⟩
        rw [hX] at hst
        simp only [hX] at hxq
        have HX := Lib.hid hX
        cases hd : digI (s[j].toNat : Int) with
        | true =>
          rw [hd, if_pos rfl] at hst
          have HST := Lib.hid hst
          unfold digI at hd
          simp at hd
          obtain ⟨d0, d1⟩ := hd
          clear hX hst
          go_wp2
          go_region
          go_wp2
          go_roundw
          case rel => exact ⟨j + 1, by omega, by omega, by go_num, (show Hd w _ _ by (repeat' first | (with_reducible exact hWn) | (with_reducible refine Hd.drew (L := ?_) ?_) | (with_reducible refine Hd.drewN (L := ?_) ?_ _) | (with_reducible refine Hd.box (L := ?_) ?_) | (with_reducible refine Hd.skip (L := ?_) ?_) | (with_reducible refine Hd.set (L := ?_) ?_ ?_) | (with_reducible exact Hd.nil) | (with_reducible exact Nat.le_refl _) | (show _ ≤ _; first | omega | (simp; done) | (simp; omega)))).cast (by rw [HST.out]; simp [hdPut, w64])⟩
          case measure => simp [intOf]; omega
        | false =>
          rw [hd] at hst
          have HST := Lib.hid hst
          unfold digI at hd
          simp at hd
          clear hX hst
          by_cases d0 : (48 : Int) ≤ (s[j].toNat : Int)
          · have d1 : (57 : Int) < (s[j].toNat : Int) := by omega
            clear hd
            go_wp2
            go_roundw
            case rel => exact ⟨j + 1, by omega, by omega, by go_num, hWn.cast (by rw [HST.out, HX.out]; rfl)⟩
            case measure => simp [intOf]; omega
          · have d1 : (s[j].toNat : Int) < 48 := by omega
            clear hd
            go_wp2
            go_roundw
            case rel => exact ⟨j + 1, by omega, by omega, by go_num, hWn.cast (by rw [HST.out, HX.out]; rfl)⟩
            case measure => simp [intOf]; omega
      · obtain rfl : j = s.size := by omega
        have k4 : 4 < s.size := by omega
        have hb4 := byt_get s 4 k4
        obtain ⟨X, hX⟩ : ∃ X, rdZ s (s.size - 4) = X := ⟨_, rfl⟩
        have hsg : signedZ s = if (s[4].toNat : Int) = 45 then IntKind.i64.wrap (-X) else X := by unfold signedZ; rw [hb4, hX]
        simp only [hX] at hxq hWn
        clear hX hb4
        obtain ⟨Y, hY⟩ : ∃ Y, signedZ s = Y := ⟨_, rfl⟩
        rw [hY] at he hsg
        have hTx := fun w => refTextW C Y w
        obtain ⟨T, hT⟩ : ∃ T, textM C Y = T := ⟨_, rfl⟩
        have hst := str_eqB T s
        rw [hT] at hTx he
        clear hY hT
        by_cases hd : (s[4].toNat : Int) = 45
        · rw [if_pos hd] at hsg
          have hd1 : ((s[4].toNat : Int) == 45) = true := by simpa using hd
          have hwY : wrap64 (-X) = Y := by rw [hsg, w64]
          clear hd hsg
          by_cases hq : T = s
          · rw [decide_eq_true hq] at hst
            rw [if_pos hq] at he
            clear hq
            go_wp2_with (go_at_call 17; (with_reducible refine (hTx _).mono ?_); rintro e w1 ⟨rfl, hxb⟩; replace hWn := Hd.next (w := w) (by (repeat' first | (with_reducible exact hWn) | (with_reducible refine Hd.drew (L := ?_) ?_) | (with_reducible refine Hd.drewN (L := ?_) ?_ _) | (with_reducible refine Hd.box (L := ?_) ?_) | (with_reducible refine Hd.skip (L := ?_) ?_) | (with_reducible refine Hd.set (L := ?_) ?_ ?_) | (with_reducible exact Hd.nil) | (with_reducible exact Nat.le_refl _) | (show _ ≤ _; first | omega | (simp; done) | (simp; omega)))) hxb; clear hxb; (try clear hxq); (try clear hxB); (try clear hxk); ((try clear hxs); have hxs := hWn.so; simp only [hdSorted, hdAbove, hdPut, World.size_alloc, World.size_drew, size_drewN', World.size_setCell, Nat.zero_add, Nat.reduceAdd, and_true, true_and, and_assoc] at hxs; have hxq := hWn.all; simp only [hdAll, hdCells, hdPut, hxs, Nat.ne_of_gt, Nat.ne_of_lt, ↓reduceIte, eq_self, Nat.add_eq_left, Nat.left_eq_add, Nat.add_right_cancel_iff, Nat.reduceEqDiff, List.set_cons_zero, List.set_cons_succ, Nat.succ_ne_self, Nat.one_ne_zero, World.size_alloc, World.size_drew, size_drewN', World.size_setCell, Nat.zero_add, Nat.reduceAdd, and_true, true_and, and_assoc] at hxq; have hxB := hWn.hB); have hxk := below_all hxB)
            all_goals
              refine bodyPost_ret (v := .tuple #[mv C Y, .bool true]) (by simp [results, Tryd.results18, go_sem, hxq]) rfl ⟨by rw [he.out]; rfl, by (repeat' first | exact Below.refl _ _ | (with_reducible assumption) | (with_reducible refine bAlloc (by first | omega | (simp <;> omega)) ?_) | (with_reducible refine bSet (by first | omega | (simp <;> omega)) ?_) | (with_reducible refine bDrew ?_) | (with_reducible refine bDrewN ?_) | (with_reducible refine bTrans (by with_reducible assumption) (by first | omega | (simp <;> omega)) ?_))⟩
          · rw [decide_eq_false hq] at hst
            rw [if_neg hq] at he
            clear hq
            go_wp2_with (go_at_call 17; (with_reducible refine (hTx _).mono ?_); rintro e w1 ⟨rfl, hxb⟩; replace hWn := Hd.next (w := w) (by (repeat' first | (with_reducible exact hWn) | (with_reducible refine Hd.drew (L := ?_) ?_) | (with_reducible refine Hd.drewN (L := ?_) ?_ _) | (with_reducible refine Hd.box (L := ?_) ?_) | (with_reducible refine Hd.skip (L := ?_) ?_) | (with_reducible refine Hd.set (L := ?_) ?_ ?_) | (with_reducible exact Hd.nil) | (with_reducible exact Nat.le_refl _) | (show _ ≤ _; first | omega | (simp; done) | (simp; omega)))) hxb; clear hxb; (try clear hxq); (try clear hxB); (try clear hxk); ((try clear hxs); have hxs := hWn.so; simp only [hdSorted, hdAbove, hdPut, World.size_alloc, World.size_drew, size_drewN', World.size_setCell, Nat.zero_add, Nat.reduceAdd, and_true, true_and, and_assoc] at hxs; have hxq := hWn.all; simp only [hdAll, hdCells, hdPut, hxs, Nat.ne_of_gt, Nat.ne_of_lt, ↓reduceIte, eq_self, Nat.add_eq_left, Nat.left_eq_add, Nat.add_right_cancel_iff, Nat.reduceEqDiff, List.set_cons_zero, List.set_cons_succ, Nat.succ_ne_self, Nat.one_ne_zero, World.size_alloc, World.size_drew, size_drewN', World.size_setCell, Nat.zero_add, Nat.reduceAdd, and_true, true_and, and_assoc] at hxq; have hxB := hWn.hB); have hxk := below_all hxB)
            all_goals
              refine bodyPost_ret (v := .tuple #[mv ⟨#[]⟩ 0, .bool false]) (by simp [results, Tryd.results18, go_sem, hxq]) rfl ⟨by rw [he.out]; rfl, by (repeat' first | exact Below.refl _ _ | (with_reducible assumption) | (with_reducible refine bAlloc (by first | omega | (simp <;> omega)) ?_) | (with_reducible refine bSet (by first | omega | (simp <;> omega)) ?_) | (with_reducible refine bDrew ?_) | (with_reducible refine bDrewN ?_) | (with_reducible refine bTrans (by with_reducible assumption) (by first | omega | (simp <;> omega)) ?_))⟩
        · rw [if_neg hd] at hsg
          have hd1 : ((s[4].toNat : Int) == 45) = false := by simpa using hd
          subst hsg
          clear hd
          by_cases hq : T = s
          · rw [decide_eq_true hq] at hst
            rw [if_pos hq] at he
            clear hq
            go_wp2_with (go_at_call 17; (with_reducible refine (hTx _).mono ?_); rintro e w1 ⟨rfl, hxb⟩; replace hWn := Hd.next (w := w) (by (repeat' first | (with_reducible exact hWn) | (with_reducible refine Hd.drew (L := ?_) ?_) | (with_reducible refine Hd.drewN (L := ?_) ?_ _) | (with_reducible refine Hd.box (L := ?_) ?_) | (with_reducible refine Hd.skip (L := ?_) ?_) | (with_reducible refine Hd.set (L := ?_) ?_ ?_) | (with_reducible exact Hd.nil) | (with_reducible exact Nat.le_refl _) | (show _ ≤ _; first | omega | (simp; done) | (simp; omega)))) hxb; clear hxb; (try clear hxq); (try clear hxB); (try clear hxk); ((try clear hxs); have hxs := hWn.so; simp only [hdSorted, hdAbove, hdPut, World.size_alloc, World.size_drew, size_drewN', World.size_setCell, Nat.zero_add, Nat.reduceAdd, and_true, true_and, and_assoc] at hxs; have hxq := hWn.all; simp only [hdAll, hdCells, hdPut, hxs, Nat.ne_of_gt, Nat.ne_of_lt, ↓reduceIte, eq_self, Nat.add_eq_left, Nat.left_eq_add, Nat.add_right_cancel_iff, Nat.reduceEqDiff, List.set_cons_zero, List.set_cons_succ, Nat.succ_ne_self, Nat.one_ne_zero, World.size_alloc, World.size_drew, size_drewN', World.size_setCell, Nat.zero_add, Nat.reduceAdd, and_true, true_and, and_assoc] at hxq; have hxB := hWn.hB); have hxk := below_all hxB)
            all_goals
              refine bodyPost_ret (v := .tuple #[mv C Y, .bool true]) (by simp [results, Tryd.results18, go_sem, hxq]) rfl ⟨by rw [he.out]; rfl, by (repeat' first | exact Below.refl _ _ | (with_reducible assumption) | (with_reducible refine bAlloc (by first | omega | (simp <;> omega)) ?_) | (with_reducible refine bSet (by first | omega | (simp <;> omega)) ?_) | (with_reducible refine bDrew ?_) | (with_reducible refine bDrewN ?_) | (with_reducible refine bTrans (by with_reducible assumption) (by first | omega | (simp <;> omega)) ?_))⟩
          · rw [decide_eq_false hq] at hst
            rw [if_neg hq] at he
            clear hq
            go_wp2_with (go_at_call 17; (with_reducible refine (hTx _).mono ?_); rintro e w1 ⟨rfl, hxb⟩; replace hWn := Hd.next (w := w) (by (repeat' first | (with_reducible exact hWn) | (with_reducible refine Hd.drew (L := ?_) ?_) | (with_reducible refine Hd.drewN (L := ?_) ?_ _) | (with_reducible refine Hd.box (L := ?_) ?_) | (with_reducible refine Hd.skip (L := ?_) ?_) | (with_reducible refine Hd.set (L := ?_) ?_ ?_) | (with_reducible exact Hd.nil) | (with_reducible exact Nat.le_refl _) | (show _ ≤ _; first | omega | (simp; done) | (simp; omega)))) hxb; clear hxb; (try clear hxq); (try clear hxB); (try clear hxk); ((try clear hxs); have hxs := hWn.so; simp only [hdSorted, hdAbove, hdPut, World.size_alloc, World.size_drew, size_drewN', World.size_setCell, Nat.zero_add, Nat.reduceAdd, and_true, true_and, and_assoc] at hxs; have hxq := hWn.all; simp only [hdAll, hdCells, hdPut, hxs, Nat.ne_of_gt, Nat.ne_of_lt, ↓reduceIte, eq_self, Nat.add_eq_left, Nat.left_eq_add, Nat.add_right_cancel_iff, Nat.reduceEqDiff, List.set_cons_zero, List.set_cons_succ, Nat.succ_ne_self, Nat.one_ne_zero, World.size_alloc, World.size_drew, size_drewN', World.size_setCell, Nat.zero_add, Nat.reduceAdd, and_true, true_and, and_assoc] at hxq; have hxB := hWn.hB); have hxk := below_all hxB)
            all_goals
              refine bodyPost_ret (v := .tuple #[mv ⟨#[]⟩ 0, .bool false]) (by simp [results, Tryd.results18, go_sem, hxq]) rfl ⟨by rw [he.out]; rfl, by (repeat' first | exact Below.refl _ _ | (with_reducible assumption) | (with_reducible refine bAlloc (by first | omega | (simp <;> omega)) ?_) | (with_reducible refine bSet (by first | omega | (simp <;> omega)) ?_) | (with_reducible refine bDrew ?_) | (with_reducible refine bDrewN ?_) | (with_reducible refine bTrans (by with_reducible assumption) (by first | omega | (simp <;> omega)) ?_))⟩
end Go.Proofs.YtgnmjopifdekiaaDoor
