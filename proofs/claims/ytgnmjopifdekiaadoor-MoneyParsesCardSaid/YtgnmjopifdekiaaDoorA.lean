/-
  Money: what may be, walked.
-/
import Derived.Test.YtgnmjopifdekiaaDoorBase
import Derived.Test.YtgnmjopifdekiaaDoorPu
import Derived.Test.YtgnmjopifdekiaaDoorShelf
namespace Go.Proofs.YtgnmjopifdekiaaDoor
set_option linter.unusedVariables false
set_option linter.unusedSimpArgs false
open Go.RowKit

theorem upPred (w : World) : PredAt Tryd.prog 68 #[] encR notUp w := fun W r _ => by
  unfold FnGives
  by_cases h1 : r < 65 <;> by_cases h2 : 90 < r
  all_goals
    have z1 : (r : Int) < 65 ↔ r < 65 := by omega
    have z2 : (90 : Int) < (r : Int) ↔ 90 < r := by omega
    go_enter Tryd.func68, Tryd.ntmps68
    go_wp2
    all_goals first | (exfalso; omega) | (go_ret; exact ⟨by simp [notUp, h1, h2], 0, rfl⟩)
theorem containsW (s : ByteArray) (w : World) :
    Calls Tryd.prog 67 #[.string s, .func (.func 68) #[] #[]] w fun e w' => e = .returned (.bool (decide (0 ≤ Lib.idxFunc notUp true s))) ∧ Below w.heap.size w w' :=
  Tryd.strings_ContainsFunc 68 #[] (enters_of Tryd.func68 (by kernel_rfl) rfl) notUp s w (upPred w)
theorem currencyW (s : ByteArray) (w : World) : Calls Tryd.prog 45 #[.string s] w fun e w' => e = .returned (.bool (curB s)) ∧ Below w.heap.size w w' := by
  have hC := fun w => containsW s w
  have hi := idx_cur s
  by_cases hz : s.size = 3
  · have hzI : (s.size : Int) = 3 := by omega
    rw [decide_eq_true hz, Bool.true_and] at hi
    have HI := Lib.hid hi
    clear hi hz
    generalize decide (0 ≤ Lib.idxFunc notUp true s) = I at *
    go_enter Tryd.func45, Tryd.ntmps45
    go_wp2_with (go_at_call 67; refine (hC _).mono ?_; rintro e w1 ⟨rfl, hxb⟩; (obtain ⟨hxc, hxf⟩ := bcell hxb; have hxz := hxb.size; (try simp [Nat.succ_le_iff] at hxz); (try have hxy := Nat.lt_of_succ_lt hxz); (try have hxy2 := Nat.lt_of_succ_lt hxy); (try have hxy3 := Nat.lt_of_succ_lt hxy2); (try have hxy4 := Nat.lt_of_succ_lt hxy3); have hxB : Below w.heap.size w w1 := (by (repeat' first | exact Below.refl _ _ | (with_reducible assumption) | (with_reducible refine bAlloc (by first | omega | (simp <;> omega)) ?_) | (with_reducible refine bSet (by first | omega | (simp <;> omega)) ?_) | (with_reducible refine bDrew ?_) | (with_reducible refine bDrewN ?_) | (with_reducible refine bTrans (by with_reducible assumption) (by first | omega | (simp <;> omega)) ?_))); have hxk := below_all hxB; (try have hxl0 : w.heap.size < w1.heap.size := (by omega)); (try have hxl1 : w.heap.size + 1 < w1.heap.size := (by omega)); (try have hxl2 : w.heap.size + 2 < w1.heap.size := (by omega))))
    all_goals (go_ret; rw [← HI.out]; exact ⟨rfl, by (repeat' first | exact Below.refl _ _ | (with_reducible assumption) | (with_reducible refine bAlloc (by first | omega | (simp <;> omega)) ?_) | (with_reducible refine bSet (by first | omega | (simp <;> omega)) ?_) | (with_reducible refine bDrew ?_) | (with_reducible refine bDrewN ?_) | (with_reducible refine bTrans (by with_reducible assumption) (by first | omega | (simp <;> omega)) ?_))⟩)
  · have hzI : ((s.size : Int) == 3) = false := by simp; omega
    rw [decide_eq_false hz] at hi
    have HI := Lib.hid hi
    clear hi hz
    go_enter Tryd.func45, Tryd.ntmps45
    go_wp2
    all_goals (go_ret; rw [← HI.out]; exact ⟨rfl, by (repeat' first | exact Below.refl _ _ | (with_reducible assumption) | (with_reducible refine bAlloc (by first | omega | (simp <;> omega)) ?_) | (with_reducible refine bSet (by first | omega | (simp <;> omega)) ?_) | (with_reducible refine bDrew ?_) | (with_reducible refine bDrewN ?_) | (with_reducible refine bTrans (by with_reducible assumption) (by first | omega | (simp <;> omega)) ?_))⟩)
theorem withinW (n : Int) (w : World) : Calls Tryd.prog 44 #[.int .i64 n] w fun e w' => e = .returned (.bool (inB n)) ∧ w = w' := by
  go_enter Tryd.func44, Tryd.ntmps44
  go_wp2
  all_goals (go_ret; go_light; refine ⟨ret_bool ?_, rfl⟩; unfold inB; simp_all; try omega)
/-- money's value -/
abbrev mv (c : ByteArray) (n : Int) : Value := .agg #[.string c, .int .i64 n]
theorem MayW (c : ByteArray) (n : Int) (w : World) : Calls Tryd.prog 22 #[mv c n] w fun e w' => e = .returned (.bool (mayM c n)) ∧ Below w.heap.size w w' := by
  have hC := fun w => currencyW c w
  have hI := fun w => withinW n w
  go_enter Tryd.func22, Tryd.ntmps22
  go_wp2_with (first | (go_at_call 45; refine (hC _).mono ?_; rintro e w1 ⟨rfl, hxb⟩; (obtain ⟨hxc, hxf⟩ := bcell hxb; have hxz := hxb.size; (try simp [Nat.succ_le_iff] at hxz); (try have hxy := Nat.lt_of_succ_lt hxz); (try have hxy2 := Nat.lt_of_succ_lt hxy); (try have hxy3 := Nat.lt_of_succ_lt hxy2); (try have hxy4 := Nat.lt_of_succ_lt hxy3); have hxB : Below w.heap.size w w1 := (by (repeat' first | exact Below.refl _ _ | (with_reducible assumption) | (with_reducible refine bAlloc (by first | omega | (simp <;> omega)) ?_) | (with_reducible refine bSet (by first | omega | (simp <;> omega)) ?_) | (with_reducible refine bDrew ?_) | (with_reducible refine bDrewN ?_) | (with_reducible refine bTrans (by with_reducible assumption) (by first | omega | (simp <;> omega)) ?_))); have hxk := below_all hxB; (try have hxl0 : w.heap.size < w1.heap.size := (by omega)); (try have hxl1 : w.heap.size + 1 < w1.heap.size := (by omega)); (try have hxl2 : w.heap.size + 2 < w1.heap.size := (by omega)))) | (go_at_call 44; refine (hI _).mono ?_; rintro e w' ⟨rfl, rfl⟩))
  all_goals (go_ret; go_light; refine ⟨ret_bool ?_, by (repeat' first | exact Below.refl _ _ | (with_reducible assumption) | (with_reducible refine bAlloc (by first | omega | (simp <;> omega)) ?_) | (with_reducible refine bSet (by first | omega | (simp <;> omega)) ?_) | (with_reducible refine bDrew ?_) | (with_reducible refine bDrewN ?_) | (with_reducible refine bTrans (by with_reducible assumption) (by first | omega | (simp <;> omega)) ?_))⟩; unfold mayM; simp_all)
set_option maxHeartbeats 400000 in
theorem refCurrencyW (s : ByteArray) (w : World) : Calls Tryd.prog 34 #[.string s] w fun e w' => e = .returned (.bool (curB s)) ∧ w = w' := by
  by_cases hz : s.size = 3
  · have hzI : (s.size : Int) = 3 := by omega
    have HZ := Lib.hid hz
    clear hz
    go_enter Tryd.func34, Tryd.ntmps34
    go_wp2
    go_loop [3] (fun i => ∃ k : Nat, k ≤ 3 ∧ i = .int .i64 k ∧ Hid (rng upI s 0 k = true)) (fun i => 3 - (intOf i).toNat)
    case atStart => exact ⟨0, by omega, rfl, Lib.hid rfl⟩
    case round =>
      obtain ⟨k, hk, rfl, hq⟩ := hrel
      by_cases hlt : k < 3
      · have hks : k < s.size := by have := HZ.out; omega
        have hb := byt_get s k hks
        cases hu : upI (byt s k) with
        | true =>
          have hq2 := Lib.hid (show rng upI s 0 (k + 1) = true by
            have h' := (rng_iff upI s k 0).1 hq.out
            rw [rng_iff]
            intro j h1 h2
            by_cases e : j = k
            · rw [e]; exact hu
            · exact h' j h1 (by omega))
          rw [hb] at hu
          unfold upI at hu
          simp at hu
          obtain ⟨u0, u1⟩ := hu
          clear hb
          go_wp2
          all_goals
            go_round
            case rel => exact ⟨k + 1, by omega, by go_num, hq2⟩
            case measure => simp [intOf]; omega
        | false =>
          have he := Lib.hid (show curB s = false by
            unfold curB
            rw [← Bool.not_eq_true, Bool.and_eq_true, rng_iff]
            intro hh
            rw [hh.2 k (by omega) (by omega)] at hu
            cases hu)
          rw [hb] at hu
          unfold upI at hu
          simp at hu
          clear hb
          by_cases u0 : (s[k].toNat : Int) < 65
          · clear hu
            go_wp2
            all_goals (go_ret; rw [he.out]; exact ⟨rfl, rfl⟩)
          · have u1 : (90 : Int) < s[k].toNat := by omega
            clear hu
            go_wp2
            all_goals (go_ret; rw [he.out]; exact ⟨rfl, rfl⟩)
      · obtain rfl : k = 3 := by omega
        have he := Lib.hid (show curB s = true by unfold curB; rw [decide_eq_true HZ.out, hq.out]; rfl)
        go_wp2
        all_goals (go_ret; rw [he.out]; exact ⟨rfl, rfl⟩)
  · have hzI : ((s.size : Int) != 3) = true := by simp; omega
    have he := Lib.hid (show curB s = false by unfold curB; rw [decide_eq_false hz]; rfl)
    clear hz
    go_enter Tryd.func34, Tryd.ntmps34
    go_wp2
    all_goals (go_ret; rw [he.out]; exact ⟨rfl, rfl⟩)
theorem refMayW (c : ByteArray) (n : Int) (w : World) : Calls Tryd.prog 14 #[mv c n] w fun e w' => e = .returned (.bool (mayM c n)) ∧ Below w.heap.size w w' := by
  have hC := fun w => refCurrencyW c w
  go_enter Tryd.func14, Tryd.ntmps14
  go_wp2_with (go_at_call 34; refine (hC _).mono ?_; rintro e w' ⟨rfl, rfl⟩)
  all_goals (go_ret; go_light; refine ⟨ret_bool ?_, by (repeat' first | exact Below.refl _ _ | (with_reducible assumption) | (with_reducible refine bAlloc (by first | omega | (simp <;> omega)) ?_) | (with_reducible refine bSet (by first | omega | (simp <;> omega)) ?_) | (with_reducible refine bDrew ?_) | (with_reducible refine bDrewN ?_) | (with_reducible refine bTrans (by with_reducible assumption) (by first | omega | (simp <;> omega)) ?_))⟩; unfold mayM inB; simp_all; try omega)
theorem str_eqB (a b : ByteArray) : (a.toList == b.toList) = decide (a = b) := by
  rw [Bool.eq_iff_iff, beq_iff_eq, decide_eq_true_eq, ByteArray.toList_eq, ByteArray.toList_eq]
  constructor
  · intro h
    exact ByteArray.ext (Array.ext' h)
  · rintro rfl; rfl
theorem str_no {s : ByteArray} {l : List UInt8} (h : s ≠ ⟨l.toArray⟩) : (s.toList == l) = false := by
  rw [beq_eq_false_iff_ne]
  intro e
  apply h
  rw [ByteArray.toList_eq] at e
  exact ByteArray.ext (Array.ext' (by rw [e]))
theorem digitsW (s : ByteArray) (w : World) : Calls Tryd.prog 35 #[.string s] w fun e w' => e = .returned (.int .i64 (digN s)) ∧ w = w' := by
  by_cases h1 : s = ⟨#[74, 80, 89]⟩
  · subst h1
    go_enter Tryd.func35, Tryd.ntmps35
    go_wp2
    go_ret
    exact ⟨rfl, rfl⟩
  by_cases h2 : s = ⟨#[75, 82, 87]⟩
  · subst h2
    clear h1
    go_enter Tryd.func35, Tryd.ntmps35
    go_wp2
    go_ret
    exact ⟨rfl, rfl⟩
  by_cases h3 : s = ⟨#[66, 72, 68]⟩
  · subst h3
    clear h1 h2
    go_enter Tryd.func35, Tryd.ntmps35
    go_wp2
    go_ret
    exact ⟨rfl, rfl⟩
  by_cases h4 : s = ⟨#[75, 87, 68]⟩
  · subst h4
    clear h1 h2 h3
    go_enter Tryd.func35, Tryd.ntmps35
    go_wp2
    go_ret
    exact ⟨rfl, rfl⟩
  by_cases h5 : s = ⟨#[84, 78, 68]⟩
  · subst h5
    clear h1 h2 h3 h4
    go_enter Tryd.func35, Tryd.ntmps35
    go_wp2
    go_ret
    exact ⟨rfl, rfl⟩
  have he := Lib.hid (show digN s = 2 by unfold digN; rw [if_neg (by simp [h1, h2]), if_neg (by simp [h3, h4, h5])])
  have n1 := str_no (l := [74, 80, 89]) h1
  have n2 := str_no (l := [75, 82, 87]) h2
  have n3 := str_no (l := [66, 72, 68]) h3
  have n4 := str_no (l := [75, 87, 68]) h4
  have n5 := str_no (l := [84, 78, 68]) h5
  clear h1 h2 h3 h4 h5
  go_enter Tryd.func35, Tryd.ntmps35
  go_wp2
  all_goals (go_ret; rw [he.out]; exact ⟨rfl, rfl⟩)
theorem refDigitsW (s : ByteArray) (w : World) : Calls Tryd.prog 41 #[.string s] w fun e w' => e = .returned (.int .i64 (digN s)) ∧ w = w' := by
  by_cases h1 : s = ⟨#[74, 80, 89]⟩
  · subst h1
    go_enter Tryd.func41, Tryd.ntmps41
    go_wp2
    go_ret
    exact ⟨rfl, rfl⟩
  by_cases h2 : s = ⟨#[75, 82, 87]⟩
  · subst h2
    clear h1
    go_enter Tryd.func41, Tryd.ntmps41
    go_wp2
    go_ret
    exact ⟨rfl, rfl⟩
  by_cases h3 : s = ⟨#[66, 72, 68]⟩
  · subst h3
    clear h1 h2
    go_enter Tryd.func41, Tryd.ntmps41
    go_wp2
    go_ret
    exact ⟨rfl, rfl⟩
  by_cases h4 : s = ⟨#[75, 87, 68]⟩
  · subst h4
    clear h1 h2 h3
    go_enter Tryd.func41, Tryd.ntmps41
    go_wp2
    go_ret
    exact ⟨rfl, rfl⟩
  by_cases h5 : s = ⟨#[84, 78, 68]⟩
  · subst h5
    clear h1 h2 h3 h4
    go_enter Tryd.func41, Tryd.ntmps41
    go_wp2
    go_ret
    exact ⟨rfl, rfl⟩
  have he := Lib.hid (show digN s = 2 by unfold digN; rw [if_neg (by simp [h1, h2]), if_neg (by simp [h3, h4, h5])])
  have n1 := str_no (l := [74, 80, 89]) h1
  have n2 := str_no (l := [75, 82, 87]) h2
  have n3 := str_no (l := [66, 72, 68]) h3
  have n4 := str_no (l := [75, 87, 68]) h4
  have n5 := str_no (l := [84, 78, 68]) h5
  clear h1 h2 h3 h4 h5
  go_enter Tryd.func41, Tryd.ntmps41
  go_wp2
  all_goals (go_ret; rw [he.out]; exact ⟨rfl, rfl⟩)
end Go.Proofs.YtgnmjopifdekiaaDoor
