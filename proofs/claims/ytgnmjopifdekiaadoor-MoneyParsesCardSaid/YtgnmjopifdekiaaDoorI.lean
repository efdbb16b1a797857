/-
  Money: Scale, walked.
-/
import Derived.Test.YtgnmjopifdekiaaDoorH
import Derived.Test.YtgnmjopifdekiaaDoorEd
namespace Go.Proofs.YtgnmjopifdekiaaDoor
set_option linter.unusedVariables false
set_option linter.unusedSimpArgs false
open Go.RowKit

def resM (c : ByteArray) : Option Int → Value
  | some q => .tuple #[mv c q, .bool true]
  | none => .tuple #[mv ⟨#[]⟩ 0, .bool false]
theorem roundNo (way : Int) (h : way < 0 ∨ 2 < way) (w : World) : Calls Tryd.prog 27 #[.int .i64 way] w fun e w' => e = .returned .nilFunc ∧ w = w' := by
  have h0 : ¬ way = 0 := by omega
  have h1 : ¬ way = 1 := by omega
  have h2 : ¬ way = 2 := by omega
  have h3 : (way == 0) = false := by simp [h0]
  have h4 : (way == 1) = false := by simp [h1]
  have h5 : (way == 2) = false := by simp [h2]
  clear h h0 h1 h2
  go_enter Tryd.func27, Tryd.ntmps27
  go_wp2
  go_ret
  exact ⟨rfl, rfl⟩
theorem round0 (w : World) : Calls Tryd.prog 27 #[.int .i64 0] w fun e w' => e = .returned (.func (.func 49) #[] #[]) ∧ w = w' := by
  go_enter Tryd.func27, Tryd.ntmps27
  go_wp2
  go_ret
  exact ⟨rfl, rfl⟩

theorem round1 (w : World) : Calls Tryd.prog 27 #[.int .i64 1] w fun e w' => e = .returned (.func (.func 50) #[] #[]) ∧ w = w' := by
  go_enter Tryd.func27, Tryd.ntmps27
  go_wp2
  go_ret
  exact ⟨rfl, rfl⟩

theorem round2 (w : World) : Calls Tryd.prog 27 #[.int .i64 2] w fun e w' => e = .returned (.func (.func 51) #[] #[]) ∧ w = w' := by
  go_enter Tryd.func27, Tryd.ntmps27
  go_wp2
  go_ret
  exact ⟨rfl, rfl⟩

theorem more0 (l d : Int) (w : World) : Calls Tryd.prog 49 #[.int .u64 l, .int .u64 d] w fun e w' => e = .returned (.bool (upB 0 l d)) ∧ w = w' := by
  go_enter Tryd.func49, Tryd.ntmps49
  go_wp2
  go_ret
  exact ⟨rfl, rfl⟩
theorem more1 (l d : Int) (w : World) : Calls Tryd.prog 50 #[.int .u64 l, .int .u64 d] w fun e w' => e = .returned (.bool (upB 1 l d)) ∧ w = w' := by
  have hu := Lib.hid (show upB 1 l d = decide (0 < l) by simp [upB])
  go_enter Tryd.func50, Tryd.ntmps50
  go_wp2
  go_ret
  exact ⟨by rw [hu.out]; rfl, rfl⟩
theorem more2 (l d : Int) (h0 : 0 ≤ l) (h1 : l ≤ d) (h2 : d ≤ 9223372036854775807) (w : World) : Calls Tryd.prog 51 #[.int .u64 l, .int .u64 d] w fun e w' => e = .returned (.bool (upB 2 l d)) ∧ w = w' := by
  have hu := Lib.hid (show upB 2 l d = decide (d - l ≤ l) by simp [upB])
  go_enter Tryd.func51, Tryd.ntmps51
  go_wp2
  go_ret
  exact ⟨by rw [hu.out]; rfl, rfl⟩
/-- what the walk needs of the numbers -/
theorem scale_facts {c : ByteArray} {a num : Int} (hm : mayM c a = true) (m0 : 0 ≤ num) (m1 : num ≤ 9223372036854775807) :
    ∃ s A p : Int, cmpZ a 0 = s ∧ s * a = A ∧ A * num = p ∧ absI a = A ∧ 0 ≤ A ∧ A ≤ 1099511627776 ∧ 0 ≤ p ∧ p ≤ 1099511627776 * 9223372036854775807 ∧ -1 ≤ s ∧ s ≤ 1 ∧ (s = 0 → p = 0) ∧
      (∀ N : Int, (s = 0 → N = 0) → s * N = sgn a N) := by
  obtain ⟨-, a0, a1⟩ := mayM_iff.1 hm
  have key : ∀ A : Int, 0 ≤ A → A ≤ 1099511627776 → 0 ≤ A * num ∧ A * num ≤ 1099511627776 * 9223372036854775807 := fun A h0 h1 =>
    ⟨Int.mul_nonneg h0 m0, Int.mul_le_mul h1 m1 m0 (by omega)⟩
  rcases (by omega : a < 0 ∨ a = 0 ∨ 0 < a) with h | h | h
  · have k := key (-a) (by omega) (by omega)
    exact ⟨-1, -a, _, cmpZ_lt h, by omega, rfl, by unfold absI; rw [if_pos h], by omega, by omega, k.1, k.2, by omega, by omega, by omega, fun N _ => by unfold sgn; rw [if_pos h]; omega⟩
  · subst h
    have k := key 0 (by omega) (by omega)
    exact ⟨0, 0, _, cmpZ_eq rfl, rfl, rfl, rfl, by omega, by omega, k.1, k.2, by omega, by omega, fun _ => by omega, fun N h => by rw [h rfl]; rfl⟩
  · have k := key a (by omega) (by omega)
    exact ⟨1, a, _, cmpZ_gt h, by omega, rfl, by unfold absI; rw [if_neg (by omega)], by omega, by omega, k.1, k.2, by omega, by omega, by omega, fun N _ => by unfold sgn; rw [if_neg (by omega)]; omega⟩
theorem may_sgn {c : ByteArray} {a N : Int} (hm : mayM c a = true) (h0 : 0 ≤ N) (h : a = 0 → N = 0) : mayM c (sgn a N) = decide (N ≤ 1099511627776) := by
  obtain ⟨hc, a0, a1⟩ := mayM_iff.1 hm
  unfold mayM sgn inB
  rw [hc, Bool.true_and]
  split
  · simp; omega
  · simp; omega
/-- the answer, step by step -/
theorem scaleZ_may {c : ByteArray} {a num den way : Int} (h : mayM c a = false ∨ fracB num den = false ∨ way < 0 ∨ 2 < way) : scaleZ c a num den way = none := by
  unfold scaleZ
  rw [if_neg]
  intro hh
  simp at hh
  rcases h with h | h | h | h
  · rw [h] at hh; simp at hh
  · rw [h] at hh; simp at hh
  · omega
  · omega
theorem scaleZ_big {c : ByteArray} {a num den way : Int} (h : 1099511627776 < scQ (absI a) num den way) : scaleZ c a num den way = none := by
  unfold scaleZ
  rw [if_neg]
  intro hh
  simp at hh
  omega
theorem scaleZ_ok {c : ByteArray} {a num den way : Int} (hm : mayM c a = true) (hf : fracB num den = true) (w0 : 0 ≤ way) (w1 : way ≤ 2) (h : scQ (absI a) num den way ≤ 1099511627776) : scaleZ c a num den way = some (sgn a (scQ (absI a) num den way)) := by
  unfold scaleZ
  rw [if_pos]
  simp [hm, hf, w0, w1, h]
theorem nilEq (w : World) : Sem.run Tryd.prog (binOp BinOp.eql 49 Value.nilFunc Value.nilFunc) w = .ok (.bool true) w := by kernel_rfl
theorem funcEq (fn : Fn) (w : World) : Sem.run Tryd.prog (binOp BinOp.eql 49 (Value.func fn #[] #[]) Value.nilFunc) w = .ok (.bool false) w := by kernel_rfl
/-- the world in which the three boxes hold these -/
structure Bz (w W : World) (c : ByteArray) (a n d : Int) : Prop where
  hB : Below w.heap.size w W
  hz : w.heap.size + 2 < W.heap.size
  c0 : W.cell? ⟨w.heap.size, 0, none⟩ = some (.string c)
  c1 : W.cell? ⟨w.heap.size, 1, none⟩ = some (.int .i64 a)
  n0 : W.cell? ⟨w.heap.size + 1, 0, none⟩ = some (.int .i64 n)
  n1 : W.cell? ⟨w.heap.size + 1, 1, none⟩ = some (.int .i64 d)
  r0 : W.cell? ⟨w.heap.size + 1 + 1, 0, none⟩ = some (.string ⟨#[]⟩)
  r1 : W.cell? ⟨w.heap.size + 1 + 1, 1, none⟩ = some (.int .i64 0)
  f0 : W.frozen? ⟨w.heap.size + 1 + 1, 0, none⟩ = false
  f1 : W.frozen? ⟨w.heap.size + 1 + 1, 1, none⟩ = false
theorem Bz.next {w W W' : World} {c : ByteArray} {a n d : Int} (h : Bz w W c a n d) (hb : Below W.heap.size W W') : Bz w W' c a n d := by
  obtain ⟨hB, hz, c0, c1, n0, n1, r0, r1, f0, f1⟩ := h
  have hfz := (bcell hb).2
  have := hb.size
  exact ⟨hB.trans (hb.mono hB.size), by omega, (hb.cell (p := ⟨w.heap.size, 0, none⟩) (by show w.heap.size < _; omega)).trans c0, (hb.cell (p := ⟨w.heap.size, 1, none⟩) (by show w.heap.size < _; omega)).trans c1,
    (hb.cell (p := ⟨w.heap.size + 1, 0, none⟩) (by show w.heap.size + 1 < _; omega)).trans n0, (hb.cell (p := ⟨w.heap.size + 1, 1, none⟩) (by show w.heap.size + 1 < _; omega)).trans n1,
    (hb.cell (p := ⟨w.heap.size + 1 + 1, 0, none⟩) (by show w.heap.size + 1 + 1 < _; omega)).trans r0, (hb.cell (p := ⟨w.heap.size + 1 + 1, 1, none⟩) (by show w.heap.size + 1 + 1 < _; omega)).trans r1, (hfz _ _ (by omega)).trans f0, (hfz _ _ (by omega)).trans f1⟩
theorem Bz.new {w : World} {c : ByteArray} {a n d : Int} (t u v : TypeId) : Bz w (((w.alloc (.cells #[.string c, .int .i64 a] t)).alloc (.cells #[.int .i64 n, .int .i64 d] u)).alloc (.cells #[.string ⟨#[]⟩, .int .i64 0] v)) c a n d :=
  ⟨by (repeat' first | exact Below.refl _ _ | (with_reducible assumption) | (with_reducible refine bAlloc (by first | omega | (simp <;> omega)) ?_) | (with_reducible refine bSet (by first | omega | (simp <;> omega)) ?_) | (with_reducible refine bDrew ?_) | (with_reducible refine bDrewN ?_) | (with_reducible refine bTrans (by with_reducible assumption) (by first | omega | (simp <;> omega)) ?_)), by simp, by simp [go_sem], by simp [go_sem], by simp [go_sem], by simp [go_sem], by simp [go_sem], by simp [go_sem], by simp [go_sem], by simp [go_sem]⟩
theorem Bz.out {w W : World} {c : ByteArray} {a n d : Int} (h : Bz w W c a n d) (o : Obj) : Bz w (W.alloc o) c a n d := h.next (by (repeat' first | exact Below.refl _ _ | (with_reducible assumption) | (with_reducible refine bAlloc (by first | omega | (simp <;> omega)) ?_) | (with_reducible refine bSet (by first | omega | (simp <;> omega)) ?_) | (with_reducible refine bDrew ?_) | (with_reducible refine bDrewN ?_) | (with_reducible refine bTrans (by with_reducible assumption) (by first | omega | (simp <;> omega)) ?_)))
set_option maxHeartbeats 4000000 in
set_option maxRecDepth 100000 in
theorem ScaleW (c : ByteArray) (a num den way : Int) (w : World) (m1 : num ≤ 9223372036854775807) (d1 : den ≤ 9223372036854775807) :
    Calls Tryd.prog 11 #[mv c a, rv num den, .int .i64 way] w fun e w' => e = .returned (resM c (scaleZ c a num den way)) ∧ Below w.heap.size w w' := by
  have hnil := nilEq
  have hfun := funcEq
  have hM := fun w => MayW c a w
  have hF := fun w => fractionW num den w
  by_cases hway : way < 0 ∨ 2 < way
  · have he := Lib.hid (show scaleZ c a num den way = none from scaleZ_may (.inr (.inr hway)))
    have hR := fun w => roundNo way hway w
    clear hway
    cases hm : mayM c a <;> cases hf : fracB num den
    all_goals
      simp only [hm] at hM
      simp only [hf] at hF
      clear hm hf
      go_enter Tryd.func11, Tryd.ntmps11
      go_wp2_with (first | (go_at_call 22; (with_reducible refine (hM _).mono ?_); rintro e w1 ⟨rfl, hxb⟩; (have hWn : Bz w w1 c a num den := Bz.next (by first | (with_reducible assumption) | exact Bz.new _ _ _ | exact Bz.out (by with_reducible assumption) _) hxb); obtain ⟨hxc, hxf⟩ := bcell hxb; clear hxb hxf; obtain ⟨hxB, hxl2, hxq0, hxq1, hxq2, hxq3, hxq4, hxq5, hxf0, hxf1⟩ := id hWn; (have hxl0 : w.heap.size < w1.heap.size := (by omega)); (have hxl1 : w.heap.size + 1 < w1.heap.size := (by omega))) | (go_at_call 22; (with_reducible refine (hMB _).mono ?_); rintro e w1 ⟨rfl, hxb⟩; (have hWn : Bz w w1 c a num den := Bz.next (by first | (with_reducible assumption) | exact Bz.new _ _ _ | exact Bz.out (by with_reducible assumption) _) hxb); obtain ⟨hxc, hxf⟩ := bcell hxb; clear hxb hxf; obtain ⟨hxB, hxl2, hxq0, hxq1, hxq2, hxq3, hxq4, hxq5, hxf0, hxf1⟩ := id hWn; (have hxl0 : w.heap.size < w1.heap.size := (by omega)); (have hxl1 : w.heap.size + 1 < w1.heap.size := (by omega))) | (go_at_call 28; (with_reducible refine (hF _).mono ?_); rintro e w1 ⟨rfl, hxb⟩; (have hWn : Bz w w1 c a num den := Bz.next (by first | (with_reducible assumption) | exact Bz.new _ _ _ | exact Bz.out (by with_reducible assumption) _) hxb); obtain ⟨hxc, hxf⟩ := bcell hxb; clear hxb hxf; obtain ⟨hxB, hxl2, hxq0, hxq1, hxq2, hxq3, hxq4, hxq5, hxf0, hxf1⟩ := id hWn; (have hxl0 : w.heap.size < w1.heap.size := (by omega)); (have hxl1 : w.heap.size + 1 < w1.heap.size := (by omega))) | (go_at_call 27; (with_reducible refine (hR _).mono ?_); rintro e w' ⟨rfl, rfl⟩) | (go_at_call 27; (with_reducible refine (round0 _).mono ?_); rintro e w' ⟨rfl, rfl⟩) | (go_at_call 27; (with_reducible refine (round1 _).mono ?_); rintro e w' ⟨rfl, rfl⟩) | (go_at_call 27; (with_reducible refine (round2 _).mono ?_); rintro e w' ⟨rfl, rfl⟩) | (go_at_call 29; (with_reducible refine (hC _).mono ?_); rintro e w' ⟨rfl, rfl⟩) | (go_at_call 30; (with_reducible refine (hMul _).mono ?_); rintro e w' ⟨rfl, rfl⟩) | (go_at_call 31; (with_reducible refine (hDiv _).mono ?_); rintro e w1 ⟨rfl, hxb⟩; (have hWn : Bz w w1 c a num den := Bz.next (by first | (with_reducible assumption) | exact Bz.new _ _ _ | exact Bz.out (by with_reducible assumption) _) hxb); obtain ⟨hxc, hxf⟩ := bcell hxb; clear hxb hxf; obtain ⟨hxB, hxl2, hxq0, hxq1, hxq2, hxq3, hxq4, hxq5, hxf0, hxf1⟩ := id hWn; (have hxl0 : w.heap.size < w1.heap.size := (by omega)); (have hxl1 : w.heap.size + 1 < w1.heap.size := (by omega))) | (go_at_call 49; (with_reducible refine (hMr _).mono ?_); rintro e w' ⟨rfl, rfl⟩) | (go_at_call 50; (with_reducible refine (hMr _).mono ?_); rintro e w' ⟨rfl, rfl⟩) | (go_at_call 51; (with_reducible refine (hMr _).mono ?_); rintro e w' ⟨rfl, rfl⟩))
      (refine bodyPost_ret (v := .tuple #[mv ⟨#[]⟩ 0, .bool false]) (by simp [results, Tryd.results11, go_sem, hxq4, hxq5]) rfl ⟨by rw [he.out]; rfl, by (repeat' first | exact Below.refl _ _ | (with_reducible assumption) | (with_reducible refine bAlloc (by first | omega | (simp <;> omega)) ?_) | (with_reducible refine bSet (by first | omega | (simp <;> omega)) ?_) | (with_reducible refine bDrew ?_) | (with_reducible refine bDrewN ?_) | (with_reducible refine bTrans (by with_reducible assumption) (by first | omega | (simp <;> omega)) ?_))⟩)
  cases hm : mayM c a with
  | false =>
    have he := Lib.hid (show scaleZ c a num den way = none from scaleZ_may (.inl hm))
    simp only [hm] at hM
    clear hm
    rcases (by omega : way = 0 ∨ way = 1 ∨ way = 2) with rfl | rfl | rfl
    all_goals
      clear hway
      go_enter Tryd.func11, Tryd.ntmps11
      go_wp2_with (first | (go_at_call 22; (with_reducible refine (hM _).mono ?_); rintro e w1 ⟨rfl, hxb⟩; (have hWn : Bz w w1 c a num den := Bz.next (by first | (with_reducible assumption) | exact Bz.new _ _ _ | exact Bz.out (by with_reducible assumption) _) hxb); obtain ⟨hxc, hxf⟩ := bcell hxb; clear hxb hxf; obtain ⟨hxB, hxl2, hxq0, hxq1, hxq2, hxq3, hxq4, hxq5, hxf0, hxf1⟩ := id hWn; (have hxl0 : w.heap.size < w1.heap.size := (by omega)); (have hxl1 : w.heap.size + 1 < w1.heap.size := (by omega))) | (go_at_call 22; (with_reducible refine (hMB _).mono ?_); rintro e w1 ⟨rfl, hxb⟩; (have hWn : Bz w w1 c a num den := Bz.next (by first | (with_reducible assumption) | exact Bz.new _ _ _ | exact Bz.out (by with_reducible assumption) _) hxb); obtain ⟨hxc, hxf⟩ := bcell hxb; clear hxb hxf; obtain ⟨hxB, hxl2, hxq0, hxq1, hxq2, hxq3, hxq4, hxq5, hxf0, hxf1⟩ := id hWn; (have hxl0 : w.heap.size < w1.heap.size := (by omega)); (have hxl1 : w.heap.size + 1 < w1.heap.size := (by omega))) | (go_at_call 28; (with_reducible refine (hF _).mono ?_); rintro e w1 ⟨rfl, hxb⟩; (have hWn : Bz w w1 c a num den := Bz.next (by first | (with_reducible assumption) | exact Bz.new _ _ _ | exact Bz.out (by with_reducible assumption) _) hxb); obtain ⟨hxc, hxf⟩ := bcell hxb; clear hxb hxf; obtain ⟨hxB, hxl2, hxq0, hxq1, hxq2, hxq3, hxq4, hxq5, hxf0, hxf1⟩ := id hWn; (have hxl0 : w.heap.size < w1.heap.size := (by omega)); (have hxl1 : w.heap.size + 1 < w1.heap.size := (by omega))) | (go_at_call 27; (with_reducible refine (hR _).mono ?_); rintro e w' ⟨rfl, rfl⟩) | (go_at_call 27; (with_reducible refine (round0 _).mono ?_); rintro e w' ⟨rfl, rfl⟩) | (go_at_call 27; (with_reducible refine (round1 _).mono ?_); rintro e w' ⟨rfl, rfl⟩) | (go_at_call 27; (with_reducible refine (round2 _).mono ?_); rintro e w' ⟨rfl, rfl⟩) | (go_at_call 29; (with_reducible refine (hC _).mono ?_); rintro e w' ⟨rfl, rfl⟩) | (go_at_call 30; (with_reducible refine (hMul _).mono ?_); rintro e w' ⟨rfl, rfl⟩) | (go_at_call 31; (with_reducible refine (hDiv _).mono ?_); rintro e w1 ⟨rfl, hxb⟩; (have hWn : Bz w w1 c a num den := Bz.next (by first | (with_reducible assumption) | exact Bz.new _ _ _ | exact Bz.out (by with_reducible assumption) _) hxb); obtain ⟨hxc, hxf⟩ := bcell hxb; clear hxb hxf; obtain ⟨hxB, hxl2, hxq0, hxq1, hxq2, hxq3, hxq4, hxq5, hxf0, hxf1⟩ := id hWn; (have hxl0 : w.heap.size < w1.heap.size := (by omega)); (have hxl1 : w.heap.size + 1 < w1.heap.size := (by omega))) | (go_at_call 49; (with_reducible refine (hMr _).mono ?_); rintro e w' ⟨rfl, rfl⟩) | (go_at_call 50; (with_reducible refine (hMr _).mono ?_); rintro e w' ⟨rfl, rfl⟩) | (go_at_call 51; (with_reducible refine (hMr _).mono ?_); rintro e w' ⟨rfl, rfl⟩))
      (refine bodyPost_ret (v := .tuple #[mv ⟨#[]⟩ 0, .bool false]) (by simp [results, Tryd.results11, go_sem, hxq4, hxq5]) rfl ⟨by rw [he.out]; rfl, by (repeat' first | exact Below.refl _ _ | (with_reducible assumption) | (with_reducible refine bAlloc (by first | omega | (simp <;> omega)) ?_) | (with_reducible refine bSet (by first | omega | (simp <;> omega)) ?_) | (with_reducible refine bDrew ?_) | (with_reducible refine bDrewN ?_) | (with_reducible refine bTrans (by with_reducible assumption) (by first | omega | (simp <;> omega)) ?_))⟩)
  | true =>
  cases hf : fracB num den with
  | false =>
    have he := Lib.hid (show scaleZ c a num den way = none from scaleZ_may (.inr (.inl hf)))
    simp only [hf] at hF
    simp only [hm] at hM
    clear hm hf
    rcases (by omega : way = 0 ∨ way = 1 ∨ way = 2) with rfl | rfl | rfl
    all_goals
      clear hway
      go_enter Tryd.func11, Tryd.ntmps11
      go_wp2_with (first | (go_at_call 22; (with_reducible refine (hM _).mono ?_); rintro e w1 ⟨rfl, hxb⟩; (have hWn : Bz w w1 c a num den := Bz.next (by first | (with_reducible assumption) | exact Bz.new _ _ _ | exact Bz.out (by with_reducible assumption) _) hxb); obtain ⟨hxc, hxf⟩ := bcell hxb; clear hxb hxf; obtain ⟨hxB, hxl2, hxq0, hxq1, hxq2, hxq3, hxq4, hxq5, hxf0, hxf1⟩ := id hWn; (have hxl0 : w.heap.size < w1.heap.size := (by omega)); (have hxl1 : w.heap.size + 1 < w1.heap.size := (by omega))) | (go_at_call 22; (with_reducible refine (hMB _).mono ?_); rintro e w1 ⟨rfl, hxb⟩; (have hWn : Bz w w1 c a num den := Bz.next (by first | (with_reducible assumption) | exact Bz.new _ _ _ | exact Bz.out (by with_reducible assumption) _) hxb); obtain ⟨hxc, hxf⟩ := bcell hxb; clear hxb hxf; obtain ⟨hxB, hxl2, hxq0, hxq1, hxq2, hxq3, hxq4, hxq5, hxf0, hxf1⟩ := id hWn; (have hxl0 : w.heap.size < w1.heap.size := (by omega)); (have hxl1 : w.heap.size + 1 < w1.heap.size := (by omega))) | (go_at_call 28; (with_reducible refine (hF _).mono ?_); rintro e w1 ⟨rfl, hxb⟩; (have hWn : Bz w w1 c a num den := Bz.next (by first | (with_reducible assumption) | exact Bz.new _ _ _ | exact Bz.out (by with_reducible assumption) _) hxb); obtain ⟨hxc, hxf⟩ := bcell hxb; clear hxb hxf; obtain ⟨hxB, hxl2, hxq0, hxq1, hxq2, hxq3, hxq4, hxq5, hxf0, hxf1⟩ := id hWn; (have hxl0 : w.heap.size < w1.heap.size := (by omega)); (have hxl1 : w.heap.size + 1 < w1.heap.size := (by omega))) | (go_at_call 27; (with_reducible refine (hR _).mono ?_); rintro e w' ⟨rfl, rfl⟩) | (go_at_call 27; (with_reducible refine (round0 _).mono ?_); rintro e w' ⟨rfl, rfl⟩) | (go_at_call 27; (with_reducible refine (round1 _).mono ?_); rintro e w' ⟨rfl, rfl⟩) | (go_at_call 27; (with_reducible refine (round2 _).mono ?_); rintro e w' ⟨rfl, rfl⟩) | (go_at_call 29; (with_reducible refine (hC _).mono ?_); rintro e w' ⟨rfl, rfl⟩) | (go_at_call 30; (with_reducible refine (hMul _).mono ?_); rintro e w' ⟨rfl, rfl⟩) | (go_at_call 31; (with_reducible refine (hDiv _).mono ?_); rintro e w1 ⟨rfl, hxb⟩; (have hWn : Bz w w1 c a num den := Bz.next (by first | (with_reducible assumption) | exact Bz.new _ _ _ | exact Bz.out (by with_reducible assumption) _) hxb); obtain ⟨hxc, hxf⟩ := bcell hxb; clear hxb hxf; obtain ⟨hxB, hxl2, hxq0, hxq1, hxq2, hxq3, hxq4, hxq5, hxf0, hxf1⟩ := id hWn; (have hxl0 : w.heap.size < w1.heap.size := (by omega)); (have hxl1 : w.heap.size + 1 < w1.heap.size := (by omega))) | (go_at_call 49; (with_reducible refine (hMr _).mono ?_); rintro e w' ⟨rfl, rfl⟩) | (go_at_call 50; (with_reducible refine (hMr _).mono ?_); rintro e w' ⟨rfl, rfl⟩) | (go_at_call 51; (with_reducible refine (hMr _).mono ?_); rintro e w' ⟨rfl, rfl⟩))
      (refine bodyPost_ret (v := .tuple #[mv ⟨#[]⟩ 0, .bool false]) (by simp [results, Tryd.results11, go_sem, hxq4, hxq5]) rfl ⟨by rw [he.out]; rfl, by (repeat' first | exact Below.refl _ _ | (with_reducible assumption) | (with_reducible refine bAlloc (by first | omega | (simp <;> omega)) ?_) | (with_reducible refine bSet (by first | omega | (simp <;> omega)) ?_) | (with_reducible refine bDrew ?_) | (with_reducible refine bDrewN ?_) | (with_reducible refine bTrans (by with_reducible assumption) (by first | omega | (simp <;> omega)) ?_))⟩)
  | true =>
  obtain ⟨m0, d0⟩ := fracB_iff.1 hf
  obtain ⟨s, A, p, hs, hsa, hp, hA, A0, A1, p0, p1, s0, s1, hs0, hsg⟩ := scale_facts hm m0 m1
  have hC : ∀ w, Calls Tryd.prog 29 #[.int .i64 a, .int .i64 0] w fun e w' => e = .returned (.int .i64 s) ∧ w = w' := fun w => by rw [← hs]; exact cmpIW a 0 w
  have hMul := fun w => mulW A num A0 m0 (by omega) (by omega) w
  have hsc : scQ (absI a) num den way = p / den + if upB way (p % den) den then 1 else 0 := by unfold scQ; rw [hA, hp]
  have hbg := fun h => scaleZ_big (c := c) (a := a) (num := num) (den := den) (way := way) h
  have hok := fun h => scaleZ_ok (way := way) hm hf (by omega) (by omega) h
  have hms := fun N h0 h => may_sgn (N := N) hm h0 h
  rw [hp] at hMul
  rw [hsc] at hbg hok
  have HSA := Lib.hid hs0
  obtain ⟨H, hH⟩ : ∃ H, p / 18446744073709551616 = H := ⟨_, rfl⟩
  obtain ⟨L, hL⟩ : ∃ L, p % 18446744073709551616 = L := ⟨_, rfl⟩
  rw [hH, hL] at hMul
  have hHL : H * 18446744073709551616 + L = p := by omega
  have H0 : 0 ≤ H ∧ H ≤ 549755813888 ∧ 0 ≤ L ∧ L < 18446744073709551616 := by omega
  obtain ⟨H0, H1, L0, L1⟩ := H0
  simp only [hm] at hM
  simp only [hf] at hF
  obtain ⟨a0, a1⟩ := (mayM_iff.1 hm).2
  have hDiv := fun w h => divW H L den w H0 h d1 L0 L1
  rw [hHL] at hDiv
  have R0 := Int.emod_nonneg p (show den ≠ 0 by omega)
  have R1 := Int.emod_lt_of_pos p (show 0 < den by omega)
  have N0 := Int.ediv_nonneg p0 (show 0 ≤ den by omega)
  have NB : den ≤ H → 18446744073709551616 ≤ p / den := fun h => Int.le_ediv_of_mul_le (by omega) (by omega)
  have NS : H < den → p / den < 18446744073709551616 := fun h => Int.ediv_lt_of_lt_mul (by omega) (by omega)
  have hz : s = 0 → p / den = 0 ∧ p % den = 0 := fun h => by rw [hs0 h, Int.zero_ediv, Int.zero_emod]; exact ⟨rfl, rfl⟩
  have ha0 : a = 0 → s = 0 := fun h => by rw [← hs, h]; rfl
  obtain ⟨N, hN⟩ : ∃ N, p / den = N := ⟨_, rfl⟩
  obtain ⟨R, hR⟩ : ∃ R, p % den = R := ⟨_, rfl⟩
  simp only [hN, hR] at hDiv R0 R1 N0 NB NS hz hbg hok
  clear hs hp hA hsc hs0 hH hL hHL p0 p1 hm hf hN hR HSA
  have HSG := Lib.hid hsg
  have HMS := Lib.hid hms
  have HOK := Lib.hid hok
  have HBG := Lib.hid hbg
  have HZ := Lib.hid hz
  have HA0 := Lib.hid ha0
  clear hsg hms hok hbg hz ha0
  by_cases hbig : den ≤ H
  · have he := Lib.hid (HBG.out (by have := NB hbig; split <;> omega))
    clear hDiv NB NS
    rcases (by omega : way = 0 ∨ way = 1 ∨ way = 2) with rfl | rfl | rfl
    all_goals
      clear hway
      go_enter Tryd.func11, Tryd.ntmps11
      go_wp2_with (first | (go_at_call 22; (with_reducible refine (hM _).mono ?_); rintro e w1 ⟨rfl, hxb⟩; (have hWn : Bz w w1 c a num den := Bz.next (by first | (with_reducible assumption) | exact Bz.new _ _ _ | exact Bz.out (by with_reducible assumption) _) hxb); obtain ⟨hxc, hxf⟩ := bcell hxb; clear hxb hxf; obtain ⟨hxB, hxl2, hxq0, hxq1, hxq2, hxq3, hxq4, hxq5, hxf0, hxf1⟩ := id hWn; (have hxl0 : w.heap.size < w1.heap.size := (by omega)); (have hxl1 : w.heap.size + 1 < w1.heap.size := (by omega))) | (go_at_call 22; (with_reducible refine (hMB _).mono ?_); rintro e w1 ⟨rfl, hxb⟩; (have hWn : Bz w w1 c a num den := Bz.next (by first | (with_reducible assumption) | exact Bz.new _ _ _ | exact Bz.out (by with_reducible assumption) _) hxb); obtain ⟨hxc, hxf⟩ := bcell hxb; clear hxb hxf; obtain ⟨hxB, hxl2, hxq0, hxq1, hxq2, hxq3, hxq4, hxq5, hxf0, hxf1⟩ := id hWn; (have hxl0 : w.heap.size < w1.heap.size := (by omega)); (have hxl1 : w.heap.size + 1 < w1.heap.size := (by omega))) | (go_at_call 28; (with_reducible refine (hF _).mono ?_); rintro e w1 ⟨rfl, hxb⟩; (have hWn : Bz w w1 c a num den := Bz.next (by first | (with_reducible assumption) | exact Bz.new _ _ _ | exact Bz.out (by with_reducible assumption) _) hxb); obtain ⟨hxc, hxf⟩ := bcell hxb; clear hxb hxf; obtain ⟨hxB, hxl2, hxq0, hxq1, hxq2, hxq3, hxq4, hxq5, hxf0, hxf1⟩ := id hWn; (have hxl0 : w.heap.size < w1.heap.size := (by omega)); (have hxl1 : w.heap.size + 1 < w1.heap.size := (by omega))) | (go_at_call 27; (with_reducible refine (hR _).mono ?_); rintro e w' ⟨rfl, rfl⟩) | (go_at_call 27; (with_reducible refine (round0 _).mono ?_); rintro e w' ⟨rfl, rfl⟩) | (go_at_call 27; (with_reducible refine (round1 _).mono ?_); rintro e w' ⟨rfl, rfl⟩) | (go_at_call 27; (with_reducible refine (round2 _).mono ?_); rintro e w' ⟨rfl, rfl⟩) | (go_at_call 29; (with_reducible refine (hC _).mono ?_); rintro e w' ⟨rfl, rfl⟩) | (go_at_call 30; (with_reducible refine (hMul _).mono ?_); rintro e w' ⟨rfl, rfl⟩) | (go_at_call 31; (with_reducible refine (hDiv _).mono ?_); rintro e w1 ⟨rfl, hxb⟩; (have hWn : Bz w w1 c a num den := Bz.next (by first | (with_reducible assumption) | exact Bz.new _ _ _ | exact Bz.out (by with_reducible assumption) _) hxb); obtain ⟨hxc, hxf⟩ := bcell hxb; clear hxb hxf; obtain ⟨hxB, hxl2, hxq0, hxq1, hxq2, hxq3, hxq4, hxq5, hxf0, hxf1⟩ := id hWn; (have hxl0 : w.heap.size < w1.heap.size := (by omega)); (have hxl1 : w.heap.size + 1 < w1.heap.size := (by omega))) | (go_at_call 49; (with_reducible refine (hMr _).mono ?_); rintro e w' ⟨rfl, rfl⟩) | (go_at_call 50; (with_reducible refine (hMr _).mono ?_); rintro e w' ⟨rfl, rfl⟩) | (go_at_call 51; (with_reducible refine (hMr _).mono ?_); rintro e w' ⟨rfl, rfl⟩))
      (refine bodyPost_ret (v := .tuple #[mv ⟨#[]⟩ 0, .bool false]) (by simp [results, Tryd.results11, go_sem, hxq4, hxq5]) rfl ⟨by rw [he.out]; rfl, by (repeat' first | exact Below.refl _ _ | (with_reducible assumption) | (with_reducible refine bAlloc (by first | omega | (simp <;> omega)) ?_) | (with_reducible refine bSet (by first | omega | (simp <;> omega)) ?_) | (with_reducible refine bDrew ?_) | (with_reducible refine bDrewN ?_) | (with_reducible refine bTrans (by with_reducible assumption) (by first | omega | (simp <;> omega)) ?_))⟩)
  have N1 := NS (by omega)
  replace hDiv := fun w => hDiv w (by omega)
  clear NB NS
  by_cases hbn : 1099511627776 < N
  · have he := Lib.hid (HBG.out (by split <;> omega))
    rcases (by omega : way = 0 ∨ way = 1 ∨ way = 2) with rfl | rfl | rfl
    all_goals
      clear hway
      go_enter Tryd.func11, Tryd.ntmps11
      go_wp2_with (first | (go_at_call 22; (with_reducible refine (hM _).mono ?_); rintro e w1 ⟨rfl, hxb⟩; (have hWn : Bz w w1 c a num den := Bz.next (by first | (with_reducible assumption) | exact Bz.new _ _ _ | exact Bz.out (by with_reducible assumption) _) hxb); obtain ⟨hxc, hxf⟩ := bcell hxb; clear hxb hxf; obtain ⟨hxB, hxl2, hxq0, hxq1, hxq2, hxq3, hxq4, hxq5, hxf0, hxf1⟩ := id hWn; (have hxl0 : w.heap.size < w1.heap.size := (by omega)); (have hxl1 : w.heap.size + 1 < w1.heap.size := (by omega))) | (go_at_call 22; (with_reducible refine (hMB _).mono ?_); rintro e w1 ⟨rfl, hxb⟩; (have hWn : Bz w w1 c a num den := Bz.next (by first | (with_reducible assumption) | exact Bz.new _ _ _ | exact Bz.out (by with_reducible assumption) _) hxb); obtain ⟨hxc, hxf⟩ := bcell hxb; clear hxb hxf; obtain ⟨hxB, hxl2, hxq0, hxq1, hxq2, hxq3, hxq4, hxq5, hxf0, hxf1⟩ := id hWn; (have hxl0 : w.heap.size < w1.heap.size := (by omega)); (have hxl1 : w.heap.size + 1 < w1.heap.size := (by omega))) | (go_at_call 28; (with_reducible refine (hF _).mono ?_); rintro e w1 ⟨rfl, hxb⟩; (have hWn : Bz w w1 c a num den := Bz.next (by first | (with_reducible assumption) | exact Bz.new _ _ _ | exact Bz.out (by with_reducible assumption) _) hxb); obtain ⟨hxc, hxf⟩ := bcell hxb; clear hxb hxf; obtain ⟨hxB, hxl2, hxq0, hxq1, hxq2, hxq3, hxq4, hxq5, hxf0, hxf1⟩ := id hWn; (have hxl0 : w.heap.size < w1.heap.size := (by omega)); (have hxl1 : w.heap.size + 1 < w1.heap.size := (by omega))) | (go_at_call 27; (with_reducible refine (hR _).mono ?_); rintro e w' ⟨rfl, rfl⟩) | (go_at_call 27; (with_reducible refine (round0 _).mono ?_); rintro e w' ⟨rfl, rfl⟩) | (go_at_call 27; (with_reducible refine (round1 _).mono ?_); rintro e w' ⟨rfl, rfl⟩) | (go_at_call 27; (with_reducible refine (round2 _).mono ?_); rintro e w' ⟨rfl, rfl⟩) | (go_at_call 29; (with_reducible refine (hC _).mono ?_); rintro e w' ⟨rfl, rfl⟩) | (go_at_call 30; (with_reducible refine (hMul _).mono ?_); rintro e w' ⟨rfl, rfl⟩) | (go_at_call 31; (with_reducible refine (hDiv _).mono ?_); rintro e w1 ⟨rfl, hxb⟩; (have hWn : Bz w w1 c a num den := Bz.next (by first | (with_reducible assumption) | exact Bz.new _ _ _ | exact Bz.out (by with_reducible assumption) _) hxb); obtain ⟨hxc, hxf⟩ := bcell hxb; clear hxb hxf; obtain ⟨hxB, hxl2, hxq0, hxq1, hxq2, hxq3, hxq4, hxq5, hxf0, hxf1⟩ := id hWn; (have hxl0 : w.heap.size < w1.heap.size := (by omega)); (have hxl1 : w.heap.size + 1 < w1.heap.size := (by omega))) | (go_at_call 49; (with_reducible refine (hMr _).mono ?_); rintro e w' ⟨rfl, rfl⟩) | (go_at_call 50; (with_reducible refine (hMr _).mono ?_); rintro e w' ⟨rfl, rfl⟩) | (go_at_call 51; (with_reducible refine (hMr _).mono ?_); rintro e w' ⟨rfl, rfl⟩))
      (refine bodyPost_ret (v := .tuple #[mv ⟨#[]⟩ 0, .bool false]) (by simp [results, Tryd.results11, go_sem, hxq4, hxq5]) rfl ⟨by rw [he.out]; rfl, by (repeat' first | exact Below.refl _ _ | (with_reducible assumption) | (with_reducible refine bAlloc (by first | omega | (simp <;> omega)) ?_) | (with_reducible refine bSet (by first | omega | (simp <;> omega)) ?_) | (with_reducible refine bDrew ?_) | (with_reducible refine bDrewN ?_) | (with_reducible refine bTrans (by with_reducible assumption) (by first | omega | (simp <;> omega)) ?_))⟩)
  obtain ⟨u, hu⟩ : ∃ u, upB way R den = u := ⟨_, rfl⟩
  rw [hu] at HBG HOK
  have hu := Lib.hid hu
  have hNN : (s = 0 → N + (if u then 1 else 0) = 0) := fun h => by
    obtain ⟨z1, z2⟩ := HZ.out h
    have : u = false := by
      rw [← hu.out]
      unfold upB
      simp
      omega
    rw [z1, this]; rfl
  obtain ⟨B, hB⟩ : ∃ B, sgn a (N + (if u then 1 else 0)) = B := ⟨_, rfl⟩
  have hsB := HSG.out _ hNN
  have hMB := fun w => MayW c B w
  have hmb := HMS.out (N + (if u then 1 else 0)) (by split <;> omega) (fun h => hNN (HA0.out h))
  have hBr : -1099511627777 ≤ B ∧ B ≤ 1099511627777 := by rw [← hB]; unfold sgn; split <;> split <;> omega
  rw [hB] at hmb hsB HOK
  rw [hmb] at hMB
  obtain ⟨B0, B1⟩ := hBr
  clear hmb hNN HSG HMS HZ HA0 hB
  cases u with
  | false =>
    simp only [Bool.false_eq_true, if_false, Int.add_zero] at hsB hMB HOK
    have he := Lib.hid (HOK.out (by omega))
    rw [show decide (N ≤ 1099511627776) = true from decide_eq_true (by omega)] at hMB
    clear HOK HBG
    rcases (by omega : way = 0 ∨ way = 1 ∨ way = 2) with rfl | rfl | rfl
    all_goals
      clear hway
      first | ((have hMr : ∀ w, Calls Tryd.prog 49 #[.int .u64 R, .int .u64 den] w fun e w' => e = .returned (.bool false) ∧ w = w' := fun w => by rw [← hu.out]; exact more0 R den w)) | ((have hMr : ∀ w, Calls Tryd.prog 50 #[.int .u64 R, .int .u64 den] w fun e w' => e = .returned (.bool false) ∧ w = w' := fun w => by rw [← hu.out]; exact more1 R den w)) | ((have hMr : ∀ w, Calls Tryd.prog 51 #[.int .u64 R, .int .u64 den] w fun e w' => e = .returned (.bool false) ∧ w = w' := fun w => by rw [← hu.out]; exact more2 R den R0 (by omega) d1 w))
      go_enter Tryd.func11, Tryd.ntmps11
      go_wp2_with (first | (go_at_call 22; (with_reducible refine (hM _).mono ?_); rintro e w1 ⟨rfl, hxb⟩; (have hWn : Bz w w1 c a num den := Bz.next (by first | (with_reducible assumption) | exact Bz.new _ _ _ | exact Bz.out (by with_reducible assumption) _) hxb); obtain ⟨hxc, hxf⟩ := bcell hxb; clear hxb hxf; obtain ⟨hxB, hxl2, hxq0, hxq1, hxq2, hxq3, hxq4, hxq5, hxf0, hxf1⟩ := id hWn; (have hxl0 : w.heap.size < w1.heap.size := (by omega)); (have hxl1 : w.heap.size + 1 < w1.heap.size := (by omega))) | (go_at_call 22; (with_reducible refine (hMB _).mono ?_); rintro e w1 ⟨rfl, hxb⟩; (have hWn : Bz w w1 c a num den := Bz.next (by first | (with_reducible assumption) | exact Bz.new _ _ _ | exact Bz.out (by with_reducible assumption) _) hxb); obtain ⟨hxc, hxf⟩ := bcell hxb; clear hxb hxf; obtain ⟨hxB, hxl2, hxq0, hxq1, hxq2, hxq3, hxq4, hxq5, hxf0, hxf1⟩ := id hWn; (have hxl0 : w.heap.size < w1.heap.size := (by omega)); (have hxl1 : w.heap.size + 1 < w1.heap.size := (by omega))) | (go_at_call 28; (with_reducible refine (hF _).mono ?_); rintro e w1 ⟨rfl, hxb⟩; (have hWn : Bz w w1 c a num den := Bz.next (by first | (with_reducible assumption) | exact Bz.new _ _ _ | exact Bz.out (by with_reducible assumption) _) hxb); obtain ⟨hxc, hxf⟩ := bcell hxb; clear hxb hxf; obtain ⟨hxB, hxl2, hxq0, hxq1, hxq2, hxq3, hxq4, hxq5, hxf0, hxf1⟩ := id hWn; (have hxl0 : w.heap.size < w1.heap.size := (by omega)); (have hxl1 : w.heap.size + 1 < w1.heap.size := (by omega))) | (go_at_call 27; (with_reducible refine (hR _).mono ?_); rintro e w' ⟨rfl, rfl⟩) | (go_at_call 27; (with_reducible refine (round0 _).mono ?_); rintro e w' ⟨rfl, rfl⟩) | (go_at_call 27; (with_reducible refine (round1 _).mono ?_); rintro e w' ⟨rfl, rfl⟩) | (go_at_call 27; (with_reducible refine (round2 _).mono ?_); rintro e w' ⟨rfl, rfl⟩) | (go_at_call 29; (with_reducible refine (hC _).mono ?_); rintro e w' ⟨rfl, rfl⟩) | (go_at_call 30; (with_reducible refine (hMul _).mono ?_); rintro e w' ⟨rfl, rfl⟩) | (go_at_call 31; (with_reducible refine (hDiv _).mono ?_); rintro e w1 ⟨rfl, hxb⟩; (have hWn : Bz w w1 c a num den := Bz.next (by first | (with_reducible assumption) | exact Bz.new _ _ _ | exact Bz.out (by with_reducible assumption) _) hxb); obtain ⟨hxc, hxf⟩ := bcell hxb; clear hxb hxf; obtain ⟨hxB, hxl2, hxq0, hxq1, hxq2, hxq3, hxq4, hxq5, hxf0, hxf1⟩ := id hWn; (have hxl0 : w.heap.size < w1.heap.size := (by omega)); (have hxl1 : w.heap.size + 1 < w1.heap.size := (by omega))) | (go_at_call 49; (with_reducible refine (hMr _).mono ?_); rintro e w' ⟨rfl, rfl⟩) | (go_at_call 50; (with_reducible refine (hMr _).mono ?_); rintro e w' ⟨rfl, rfl⟩) | (go_at_call 51; (with_reducible refine (hMr _).mono ?_); rintro e w' ⟨rfl, rfl⟩))
      (refine bodyPost_ret (v := .tuple #[mv c B, .bool true]) (by simp [results, Tryd.results11, go_sem, hxq4, hxq5]) rfl ⟨by rw [he.out]; rfl, by (repeat' first | exact Below.refl _ _ | (with_reducible assumption) | (with_reducible refine bAlloc (by first | omega | (simp <;> omega)) ?_) | (with_reducible refine bSet (by first | omega | (simp <;> omega)) ?_) | (with_reducible refine bDrew ?_) | (with_reducible refine bDrewN ?_) | (with_reducible refine bTrans (by with_reducible assumption) (by first | omega | (simp <;> omega)) ?_))⟩)
  | true =>
    simp only [if_true] at hsB hMB HOK HBG
    by_cases hbb : 1099511627776 < N + 1
    · have he := Lib.hid (HBG.out hbb)
      rw [show decide (N + 1 ≤ 1099511627776) = false from decide_eq_false (by omega)] at hMB
      clear HOK HBG
      rcases (by omega : way = 0 ∨ way = 1 ∨ way = 2) with rfl | rfl | rfl
      all_goals
        clear hway
        first | ((have hMr : ∀ w, Calls Tryd.prog 49 #[.int .u64 R, .int .u64 den] w fun e w' => e = .returned (.bool true) ∧ w = w' := fun w => by rw [← hu.out]; exact more0 R den w)) | ((have hMr : ∀ w, Calls Tryd.prog 50 #[.int .u64 R, .int .u64 den] w fun e w' => e = .returned (.bool true) ∧ w = w' := fun w => by rw [← hu.out]; exact more1 R den w)) | ((have hMr : ∀ w, Calls Tryd.prog 51 #[.int .u64 R, .int .u64 den] w fun e w' => e = .returned (.bool true) ∧ w = w' := fun w => by rw [← hu.out]; exact more2 R den R0 (by omega) d1 w))
        go_enter Tryd.func11, Tryd.ntmps11
        go_wp2_with (first | (go_at_call 22; (with_reducible refine (hM _).mono ?_); rintro e w1 ⟨rfl, hxb⟩; (have hWn : Bz w w1 c a num den := Bz.next (by first | (with_reducible assumption) | exact Bz.new _ _ _ | exact Bz.out (by with_reducible assumption) _) hxb); obtain ⟨hxc, hxf⟩ := bcell hxb; clear hxb hxf; obtain ⟨hxB, hxl2, hxq0, hxq1, hxq2, hxq3, hxq4, hxq5, hxf0, hxf1⟩ := id hWn; (have hxl0 : w.heap.size < w1.heap.size := (by omega)); (have hxl1 : w.heap.size + 1 < w1.heap.size := (by omega))) | (go_at_call 22; (with_reducible refine (hMB _).mono ?_); rintro e w1 ⟨rfl, hxb⟩; (have hWn : Bz w w1 c a num den := Bz.next (by first | (with_reducible assumption) | exact Bz.new _ _ _ | exact Bz.out (by with_reducible assumption) _) hxb); obtain ⟨hxc, hxf⟩ := bcell hxb; clear hxb hxf; obtain ⟨hxB, hxl2, hxq0, hxq1, hxq2, hxq3, hxq4, hxq5, hxf0, hxf1⟩ := id hWn; (have hxl0 : w.heap.size < w1.heap.size := (by omega)); (have hxl1 : w.heap.size + 1 < w1.heap.size := (by omega))) | (go_at_call 28; (with_reducible refine (hF _).mono ?_); rintro e w1 ⟨rfl, hxb⟩; (have hWn : Bz w w1 c a num den := Bz.next (by first | (with_reducible assumption) | exact Bz.new _ _ _ | exact Bz.out (by with_reducible assumption) _) hxb); obtain ⟨hxc, hxf⟩ := bcell hxb; clear hxb hxf; obtain ⟨hxB, hxl2, hxq0, hxq1, hxq2, hxq3, hxq4, hxq5, hxf0, hxf1⟩ := id hWn; (have hxl0 : w.heap.size < w1.heap.size := (by omega)); (have hxl1 : w.heap.size + 1 < w1.heap.size := (by omega))) | (go_at_call 27; (with_reducible refine (hR _).mono ?_); rintro e w' ⟨rfl, rfl⟩) | (go_at_call 27; (with_reducible refine (round0 _).mono ?_); rintro e w' ⟨rfl, rfl⟩) | (go_at_call 27; (with_reducible refine (round1 _).mono ?_); rintro e w' ⟨rfl, rfl⟩) | (go_at_call 27; (with_reducible refine (round2 _).mono ?_); rintro e w' ⟨rfl, rfl⟩) | (go_at_call 29; (with_reducible refine (hC _).mono ?_); rintro e w' ⟨rfl, rfl⟩) | (go_at_call 30; (with_reducible refine (hMul _).mono ?_); rintro e w' ⟨rfl, rfl⟩) | (go_at_call 31; (with_reducible refine (hDiv _).mono ?_); rintro e w1 ⟨rfl, hxb⟩; (have hWn : Bz w w1 c a num den := Bz.next (by first | (with_reducible assumption) | exact Bz.new _ _ _ | exact Bz.out (by with_reducible assumption) _) hxb); obtain ⟨hxc, hxf⟩ := bcell hxb; clear hxb hxf; obtain ⟨hxB, hxl2, hxq0, hxq1, hxq2, hxq3, hxq4, hxq5, hxf0, hxf1⟩ := id hWn; (have hxl0 : w.heap.size < w1.heap.size := (by omega)); (have hxl1 : w.heap.size + 1 < w1.heap.size := (by omega))) | (go_at_call 49; (with_reducible refine (hMr _).mono ?_); rintro e w' ⟨rfl, rfl⟩) | (go_at_call 50; (with_reducible refine (hMr _).mono ?_); rintro e w' ⟨rfl, rfl⟩) | (go_at_call 51; (with_reducible refine (hMr _).mono ?_); rintro e w' ⟨rfl, rfl⟩))
        all_goals (refine bodyPost_ret (v := .tuple #[mv ⟨#[]⟩ 0, .bool false]) (by simp [results, Tryd.results11, go_sem, hxq4, hxq5]) rfl ⟨by rw [he.out]; rfl, by (repeat' first | exact Below.refl _ _ | (with_reducible assumption) | (with_reducible refine bAlloc (by first | omega | (simp <;> omega)) ?_) | (with_reducible refine bSet (by first | omega | (simp <;> omega)) ?_) | (with_reducible refine bDrew ?_) | (with_reducible refine bDrewN ?_) | (with_reducible refine bTrans (by with_reducible assumption) (by first | omega | (simp <;> omega)) ?_))⟩)
    · have he := Lib.hid (HOK.out (by omega))
      rw [show decide (N + 1 ≤ 1099511627776) = true from decide_eq_true (by omega)] at hMB
      clear HOK HBG
      rcases (by omega : way = 0 ∨ way = 1 ∨ way = 2) with rfl | rfl | rfl
      all_goals
        clear hway
        first | ((have hMr : ∀ w, Calls Tryd.prog 49 #[.int .u64 R, .int .u64 den] w fun e w' => e = .returned (.bool true) ∧ w = w' := fun w => by rw [← hu.out]; exact more0 R den w)) | ((have hMr : ∀ w, Calls Tryd.prog 50 #[.int .u64 R, .int .u64 den] w fun e w' => e = .returned (.bool true) ∧ w = w' := fun w => by rw [← hu.out]; exact more1 R den w)) | ((have hMr : ∀ w, Calls Tryd.prog 51 #[.int .u64 R, .int .u64 den] w fun e w' => e = .returned (.bool true) ∧ w = w' := fun w => by rw [← hu.out]; exact more2 R den R0 (by omega) d1 w))
        go_enter Tryd.func11, Tryd.ntmps11
        go_wp2_with (first | (go_at_call 22; (with_reducible refine (hM _).mono ?_); rintro e w1 ⟨rfl, hxb⟩; (have hWn : Bz w w1 c a num den := Bz.next (by first | (with_reducible assumption) | exact Bz.new _ _ _ | exact Bz.out (by with_reducible assumption) _) hxb); obtain ⟨hxc, hxf⟩ := bcell hxb; clear hxb hxf; obtain ⟨hxB, hxl2, hxq0, hxq1, hxq2, hxq3, hxq4, hxq5, hxf0, hxf1⟩ := id hWn; (have hxl0 : w.heap.size < w1.heap.size := (by omega)); (have hxl1 : w.heap.size + 1 < w1.heap.size := (by omega))) | (go_at_call 22; (with_reducible refine (hMB _).mono ?_); rintro e w1 ⟨rfl, hxb⟩; (have hWn : Bz w w1 c a num den := Bz.next (by first | (with_reducible assumption) | exact Bz.new _ _ _ | exact Bz.out (by with_reducible assumption) _) hxb); obtain ⟨hxc, hxf⟩ := bcell hxb; clear hxb hxf; obtain ⟨hxB, hxl2, hxq0, hxq1, hxq2, hxq3, hxq4, hxq5, hxf0, hxf1⟩ := id hWn; (have hxl0 : w.heap.size < w1.heap.size := (by omega)); (have hxl1 : w.heap.size + 1 < w1.heap.size := (by omega))) | (go_at_call 28; (with_reducible refine (hF _).mono ?_); rintro e w1 ⟨rfl, hxb⟩; (have hWn : Bz w w1 c a num den := Bz.next (by first | (with_reducible assumption) | exact Bz.new _ _ _ | exact Bz.out (by with_reducible assumption) _) hxb); obtain ⟨hxc, hxf⟩ := bcell hxb; clear hxb hxf; obtain ⟨hxB, hxl2, hxq0, hxq1, hxq2, hxq3, hxq4, hxq5, hxf0, hxf1⟩ := id hWn; (have hxl0 : w.heap.size < w1.heap.size := (by omega)); (have hxl1 : w.heap.size + 1 < w1.heap.size := (by omega))) | (go_at_call 27; (with_reducible refine (hR _).mono ?_); rintro e w' ⟨rfl, rfl⟩) | (go_at_call 27; (with_reducible refine (round0 _).mono ?_); rintro e w' ⟨rfl, rfl⟩) | (go_at_call 27; (with_reducible refine (round1 _).mono ?_); rintro e w' ⟨rfl, rfl⟩) | (go_at_call 27; (with_reducible refine (round2 _).mono ?_); rintro e w' ⟨rfl, rfl⟩) | (go_at_call 29; (with_reducible refine (hC _).mono ?_); rintro e w' ⟨rfl, rfl⟩) | (go_at_call 30; (with_reducible refine (hMul _).mono ?_); rintro e w' ⟨rfl, rfl⟩) | (go_at_call 31; (with_reducible refine (hDiv _).mono ?_); rintro e w1 ⟨rfl, hxb⟩; (have hWn : Bz w w1 c a num den := Bz.next (by first | (with_reducible assumption) | exact Bz.new _ _ _ | exact Bz.out (by with_reducible assumption) _) hxb); obtain ⟨hxc, hxf⟩ := bcell hxb; clear hxb hxf; obtain ⟨hxB, hxl2, hxq0, hxq1, hxq2, hxq3, hxq4, hxq5, hxf0, hxf1⟩ := id hWn; (have hxl0 : w.heap.size < w1.heap.size := (by omega)); (have hxl1 : w.heap.size + 1 < w1.heap.size := (by omega))) | (go_at_call 49; (with_reducible refine (hMr _).mono ?_); rintro e w' ⟨rfl, rfl⟩) | (go_at_call 50; (with_reducible refine (hMr _).mono ?_); rintro e w' ⟨rfl, rfl⟩) | (go_at_call 51; (with_reducible refine (hMr _).mono ?_); rintro e w' ⟨rfl, rfl⟩))
        all_goals (refine bodyPost_ret (v := .tuple #[mv c B, .bool true]) (by simp [results, Tryd.results11, go_sem, hxq4, hxq5]) rfl ⟨by rw [he.out]; rfl, by (repeat' first | exact Below.refl _ _ | (with_reducible assumption) | (with_reducible refine bAlloc (by first | omega | (simp <;> omega)) ?_) | (with_reducible refine bSet (by first | omega | (simp <;> omega)) ?_) | (with_reducible refine bDrew ?_) | (with_reducible refine bDrewN ?_) | (with_reducible refine bTrans (by with_reducible assumption) (by first | omega | (simp <;> omega)) ?_))⟩)
end Go.Proofs.YtgnmjopifdekiaaDoor
