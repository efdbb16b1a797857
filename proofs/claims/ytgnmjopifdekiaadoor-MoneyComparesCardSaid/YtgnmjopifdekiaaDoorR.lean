/-
  Money: the reference's Compare, walked.
-/
import Derived.Test.YtgnmjopifdekiaaDoorC
import Derived.Test.YtgnmjopifdekiaaDoorQ
import Derived.Deep.LoopGhost
namespace Go.Proofs.YtgnmjopifdekiaaDoor
set_option linter.unusedVariables false
set_option linter.unusedSimpArgs false
open Go.RowKit

def HB (n d : Int) : Prop := 0 ≤ n ∧ n ≤ 9223372036854775807 ∧ 1 ≤ d ∧ d ≤ 9223372036854775807
theorem held_hb {n d : Int} (h1 : n ≤ 9223372036854775807) (h2 : d ≤ 9223372036854775807) : HB (heldN n d) (heldD n d) := held_range h1 h2
theorem mul_one_neg (x : Int) : x * -1 = -x := by omega
set_option maxHeartbeats 2000000 in
theorem refCompareW (n d m e : Int) (w : World) (hn : n ≤ 9223372036854775807) (hd : d ≤ 9223372036854775807) (hm : m ≤ 9223372036854775807) (he : e ≤ 9223372036854775807) :
    Calls Tryd.prog 24 #[rv n d, rv m e] w fun e' w' => e' = .returned (.int .i64 (cmpR n d m e)) ∧ Below w.heap.size w w' := by
  have h1 := fun w => refRightW n d w
  have h2 := fun w => refRightW m e w
  have b1 := held_hb hn hd
  have b2 := held_hb hm he
  have hV : cmpR n d m e = cmpF (heldN n d) (heldD n d) (heldN m e) (heldD m e) := rfl
  obtain ⟨V, eV⟩ : ∃ V, cmpR n d m e = V := ⟨_, rfl⟩
  rw [eV] at hV ⊢
  have hWn := Hd.nil (w := w)
  have hstep := Lib.hid (fun (x y u v : Int) (h : HB x y) (g : HB u v) => turn_step (n := x) (d := y) (m := u) (e := v) (by unfold HB at h; omega) (by unfold HB at g; omega))
  cases hf : fracB n d <;> cases hg : fracB m e
  all_goals
    simp only [hf] at h1
    simp only [hg] at h2
    simp only [heldN, heldD, hf, hg, Bool.false_eq_true, if_false, if_true] at b1 b2 hV
    have HV := Lib.hid hV
    clear hf hg hV eV
    have B1 := Lib.hid b1
    have B2 := Lib.hid b2
    obtain ⟨-, -, b10, b11⟩ := b1
    clear b2
    go_enter Tryd.func24, Tryd.ntmps24
    go_wp2_with (first | (go_at_call 32; (with_reducible refine (h1 _).mono ?_); rintro e w1 ⟨rfl, hxb⟩; replace hWn := Hd.next (w := w) (by (repeat' first | (with_reducible exact hWn) | (with_reducible refine Hd.drew (L := ?_) ?_) | (with_reducible refine Hd.drewN (L := ?_) ?_ _) | (with_reducible refine Hd.box (L := ?_) ?_) | (with_reducible refine Hd.skip (L := ?_) ?_) | (with_reducible refine Hd.set (L := ?_) ?_ ?_) | (with_reducible exact Hd.nil) | (with_reducible exact Nat.le_refl _) | (show _ ≤ _; first | omega | (simp; done) | (simp; omega)))) hxb; clear hxb; (try clear hxq); (try clear hxB); (try clear hxk); ((try clear hxs); have hxs := hWn.so; simp only [hdSorted, hdAbove, hdPut, World.size_alloc, World.size_drew, size_drewN', World.size_setCell, Nat.zero_add, Nat.reduceAdd, and_true, true_and, and_assoc] at hxs; have hxq := hWn.all; simp only [hdAll, hdCells, hdPut, hxs, Nat.ne_of_gt, Nat.ne_of_lt, ↓reduceIte, eq_self, Nat.add_eq_left, Nat.left_eq_add, Nat.add_right_cancel_iff, Nat.reduceEqDiff, List.set_cons_zero, List.set_cons_succ, Nat.succ_ne_self, Nat.one_ne_zero, World.size_alloc, World.size_drew, size_drewN', World.size_setCell, Nat.zero_add, Nat.reduceAdd, and_true, true_and, and_assoc] at hxq; have hxB := hWn.hB); have hxk := below_all hxB) | (go_at_call 32; (with_reducible refine (h2 _).mono ?_); rintro e w1 ⟨rfl, hxb⟩; replace hWn := Hd.next (w := w) (by (repeat' first | (with_reducible exact hWn) | (with_reducible refine Hd.drew (L := ?_) ?_) | (with_reducible refine Hd.drewN (L := ?_) ?_ _) | (with_reducible refine Hd.box (L := ?_) ?_) | (with_reducible refine Hd.skip (L := ?_) ?_) | (with_reducible refine Hd.set (L := ?_) ?_ ?_) | (with_reducible exact Hd.nil) | (with_reducible exact Nat.le_refl _) | (show _ ≤ _; first | omega | (simp; done) | (simp; omega)))) hxb; clear hxb; (try clear hxq); (try clear hxB); (try clear hxk); ((try clear hxs); have hxs := hWn.so; simp only [hdSorted, hdAbove, hdPut, World.size_alloc, World.size_drew, size_drewN', World.size_setCell, Nat.zero_add, Nat.reduceAdd, and_true, true_and, and_assoc] at hxs; have hxq := hWn.all; simp only [hdAll, hdCells, hdPut, hxs, Nat.ne_of_gt, Nat.ne_of_lt, ↓reduceIte, eq_self, Nat.add_eq_left, Nat.left_eq_add, Nat.add_right_cancel_iff, Nat.reduceEqDiff, List.set_cons_zero, List.set_cons_succ, Nat.succ_ne_self, Nat.one_ne_zero, World.size_alloc, World.size_drew, size_drewN', World.size_setCell, Nat.zero_add, Nat.reduceAdd, and_true, true_and, and_assoc] at hxq; have hxB := hWn.hB); have hxk := below_all hxB))
    go_loopg [5] (9223372036854775807 : Nat) (fun k s W => ∃ sg x y u v : Int, -1 ≤ sg ∧ sg ≤ 1 ∧ HB x y ∧ HB u v ∧ y ≤ k ∧ s = .int .i64 sg ∧ Hid (sg * cmpF x y u v = V) ∧ Hd w W [(w.heap.size + 1, [.int .i64 u, .int .i64 v]), (w.heap.size, [.int .i64 x, .int .i64 y])])
    case atStart =>
      first
        | exact ⟨1, _, _, _, _, by omega, by omega, B1.out, B2.out, by omega, rfl, Lib.hid (by rw [Int.one_mul]; exact HV.out.symm), (show Hd w _ _ by (repeat' first | (with_reducible exact hWn) | (with_reducible refine Hd.drew (L := ?_) ?_) | (with_reducible refine Hd.drewN (L := ?_) ?_ _) | (with_reducible refine Hd.box (L := ?_) ?_) | (with_reducible refine Hd.skip (L := ?_) ?_) | (with_reducible refine Hd.set (L := ?_) ?_ ?_) | (with_reducible exact Hd.nil) | (with_reducible exact Nat.le_refl _) | (show _ ≤ _; first | omega | (simp; done) | (simp; omega)))).cast (by simp [hdPut])⟩
    case round =>
      clear hWn hxq hxB hxk
      obtain ⟨sg, x, y, u, v, s0, s1, hb1, hb2, hk, rfl, hc, hWn⟩ := hrel
      ((try clear hxs); have hxs := hWn.so; simp only [hdSorted, hdAbove, hdPut, World.size_alloc, World.size_drew, size_drewN', World.size_setCell, Nat.zero_add, Nat.reduceAdd, and_true, true_and, and_assoc] at hxs; have hxq := hWn.all; simp only [hdAll, hdCells, hdPut, hxs, Nat.ne_of_gt, Nat.ne_of_lt, ↓reduceIte, eq_self, Nat.add_eq_left, Nat.left_eq_add, Nat.add_right_cancel_iff, Nat.reduceEqDiff, List.set_cons_zero, List.set_cons_succ, Nat.succ_ne_self, Nat.one_ne_zero, World.size_alloc, World.size_drew, size_drewN', World.size_setCell, Nat.zero_add, Nat.reduceAdd, and_true, true_and, and_assoc] at hxq; have hxB := hWn.hB)
      have hst := Lib.hid (hstep.out x y u v hb1 hb2)
      obtain ⟨x0, x1, y0, y1⟩ := id hb1
      obtain ⟨u0, u1, v0, v1⟩ := id hb2
      have p0 := Int.ediv_nonneg x0 (show 0 ≤ y by omega)
      have p1 := Int.ediv_le_self y x0
      have q0 := Int.ediv_nonneg u0 (show 0 ≤ v by omega)
      have q1 := Int.ediv_le_self v u0
      have r0 := Int.emod_nonneg x (show y ≠ 0 by omega)
      have r1 := Int.emod_lt_of_pos x (show 0 < y by omega)
      have t0 := Int.emod_nonneg u (show v ≠ 0 by omega)
      have t1 := Int.emod_lt_of_pos u (show 0 < v by omega)
      have HC := Lib.hid hc.out
      clear hc
      by_cases hlt : x / y < u / v
      · have hres := Lib.hid (show V = -sg by have := HC.out; rw [whole_lt (by omega) (by omega) hlt] at this; omega)
        go_wp2
        go_quiet (fail)
        go_wp2
        go_ret
        rw [hres.out]
        exact ⟨rfl, by (repeat' first | exact Below.refl _ _ | (with_reducible assumption) | (with_reducible refine bAlloc (by first | omega | (simp <;> omega)) ?_) | (with_reducible refine bSet (by first | omega | (simp <;> omega)) ?_) | (with_reducible refine bDrew ?_) | (with_reducible refine bDrewN ?_) | (with_reducible refine bTrans (by with_reducible assumption) (by first | omega | (simp <;> omega)) ?_))⟩
      by_cases hgt : u / v < x / y
      · have hres := Lib.hid (show V = sg by have := HC.out; rw [whole_gt (by omega) (by omega) hgt] at this; omega)
        go_wp2
        go_quiet (fail)
        go_wp2
        go_ret
        rw [hres.out]
        exact ⟨rfl, by (repeat' first | exact Below.refl _ _ | (with_reducible assumption) | (with_reducible refine bAlloc (by first | omega | (simp <;> omega)) ?_) | (with_reducible refine bSet (by first | omega | (simp <;> omega)) ?_) | (with_reducible refine bDrew ?_) | (with_reducible refine bDrewN ?_) | (with_reducible refine bTrans (by with_reducible assumption) (by first | omega | (simp <;> omega)) ?_))⟩
      have hq := hst.out (by omega)
      have hl1 : x / y ≤ u / v := by omega
      have hl2 : u / v ≤ x / y := by omega
      clear hlt hgt hst
      obtain ⟨g1, g2, g3, g4⟩ := hq
      by_cases hx : x % y = 0
      · by_cases hy : u % v = 0
        · have hres := Lib.hid (show V = 0 by have := HC.out; rw [g1 hx hy] at this; omega)
          clear g1 g2 g3 g4
          go_wp2
          go_quiet (fail)
          go_wp2
          go_quiet (fail)
          go_wp2
          go_ret
          rw [hres.out]
          exact ⟨rfl, by (repeat' first | exact Below.refl _ _ | (with_reducible assumption) | (with_reducible refine bAlloc (by first | omega | (simp <;> omega)) ?_) | (with_reducible refine bSet (by first | omega | (simp <;> omega)) ?_) | (with_reducible refine bDrew ?_) | (with_reducible refine bDrewN ?_) | (with_reducible refine bTrans (by with_reducible assumption) (by first | omega | (simp <;> omega)) ?_))⟩
        · have hres := Lib.hid (show V = -sg by have := HC.out; rw [g2 hx (by omega)] at this; omega)
          have hyb : (u % v == 0) = false := by simpa using hy
          clear g1 g2 g3 g4 hy
          go_wp2
          go_quiet (fail)
          go_wp2
          go_quiet (fail)
          go_wp2
          go_ret
          rw [hres.out]
          exact ⟨rfl, by (repeat' first | exact Below.refl _ _ | (with_reducible assumption) | (with_reducible refine bAlloc (by first | omega | (simp <;> omega)) ?_) | (with_reducible refine bSet (by first | omega | (simp <;> omega)) ?_) | (with_reducible refine bDrew ?_) | (with_reducible refine bDrewN ?_) | (with_reducible refine bTrans (by with_reducible assumption) (by first | omega | (simp <;> omega)) ?_))⟩
      · have hxb : (x % y == 0) = false := by simpa using hx
        by_cases hy : u % v = 0
        · have hres := Lib.hid (show V = sg by have := HC.out; rw [g3 (by omega) hy] at this; omega)
          clear g1 g2 g3 g4 hx
          go_wp2
          go_quiet (fail)
          go_wp2
          go_quiet (fail)
          go_wp2
          go_ret
          rw [hres.out]
          exact ⟨rfl, by (repeat' first | exact Below.refl _ _ | (with_reducible assumption) | (with_reducible refine bAlloc (by first | omega | (simp <;> omega)) ?_) | (with_reducible refine bSet (by first | omega | (simp <;> omega)) ?_) | (with_reducible refine bDrew ?_) | (with_reducible refine bDrewN ?_) | (with_reducible refine bTrans (by with_reducible assumption) (by first | omega | (simp <;> omega)) ?_))⟩
        · have hres := Lib.hid (show -sg * cmpF y (x % y) v (u % v) = V by have := HC.out; rw [g4] at this; rw [Int.neg_mul, ← Int.mul_neg]; exact this)
          have hyb : (u % v == 0) = false := by simpa using hy
          have rp : 1 ≤ x % y := by omega
          have tp : 1 ≤ u % v := by omega
          have hB1 : HB y (x % y) := ⟨by omega, by omega, by omega, by omega⟩
          have hB2 : HB v (u % v) := ⟨by omega, by omega, by omega, by omega⟩
          have HB1 := Lib.hid hB1
          have HB2 := Lib.hid hB2
          clear g1 g2 g3 g4 hx hy hb1 hb2 hB1 hB2
          go_wp2
          go_quiet (fail)
          go_wp2
          go_quiet (fail)
          go_wp2
          go_region
          all_goals
            go_wp2
            go_roundg ((x % y).toNat)
            case rel => exact ⟨-sg, y, x % y, v, u % v, by omega, by omega, HB1.out, HB2.out, by omega, rfl, hres, (show Hd w _ _ by (repeat' first | (with_reducible exact hWn) | (with_reducible refine Hd.drew (L := ?_) ?_) | (with_reducible refine Hd.drewN (L := ?_) ?_ _) | (with_reducible refine Hd.box (L := ?_) ?_) | (with_reducible refine Hd.skip (L := ?_) ?_) | (with_reducible refine Hd.set (L := ?_) ?_ ?_) | (with_reducible exact Hd.nil) | (with_reducible exact Nat.le_refl _) | (show _ ≤ _; first | omega | (simp; done) | (simp; omega)))).cast (by simp [hdPut])⟩
            case measure => omega
end Go.Proofs.YtgnmjopifdekiaaDoor
