/-
  Money: Compare, walked.
-/
import Derived.Test.YtgnmjopifdekiaaDoorB
import Derived.Test.YtgnmjopifdekiaaDoorShelf
namespace Go.Proofs.YtgnmjopifdekiaaDoor
set_option linter.unusedVariables false
set_option linter.unusedSimpArgs false
open Go.RowKit

theorem mulW (x y : Int) (hx : 0 ≤ x) (hy : 0 ≤ y) (hx1 : x < 18446744073709551616) (hy1 : y < 18446744073709551616) (w : World) :
    Calls Tryd.prog 30 #[.int .u64 x, .int .u64 y] w fun e w' => e = .returned (.tuple #[.int .u64 (x * y / 18446744073709551616), .int .u64 (x * y % 18446744073709551616)]) ∧ w = w' := by
  obtain ⟨a, rfl⟩ := Int.eq_ofNat_of_zero_le hx
  obtain ⟨b, rfl⟩ := Int.eq_ofNat_of_zero_le hy
  refine (Tryd.bits_Mul64 a b (by omega) (by omega) w).mono fun e w' ⟨he, hw⟩ => ⟨?_, hw.symm⟩
  rw [he]
  rfl
theorem held_range {n d : Int} (h1 : n ≤ 9223372036854775807) (h2 : d ≤ 9223372036854775807) : 0 ≤ heldN n d ∧ heldN n d ≤ 9223372036854775807 ∧ 1 ≤ heldD n d ∧ heldD n d ≤ 9223372036854775807 := by
  unfold heldN heldD
  cases h : fracB n d with
  | true => have := fracB_iff.1 h; simp only [if_true]; omega
  | false => simp
/-- a fraction against another, whatever they are -/
def cmpR (n d m e : Int) : Int := cmpF (heldN n d) (heldD n d) (heldN m e) (heldD m e)
/-- the world in which two boxes of two numbers hold these -/
structure Bx2 (w W : World) (a b c g : Value) : Prop where
  hB : Below w.heap.size w W
  hz : w.heap.size + 1 < W.heap.size
  c0 : W.cell? ⟨w.heap.size, 0, none⟩ = some a
  c1 : W.cell? ⟨w.heap.size, 1, none⟩ = some b
  d0 : W.cell? ⟨w.heap.size + 1, 0, none⟩ = some c
  d1 : W.cell? ⟨w.heap.size + 1, 1, none⟩ = some g
  f : ∀ k, W.frozen? ⟨w.heap.size, k, none⟩ = false ∧ W.frozen? ⟨w.heap.size + 1, k, none⟩ = false
theorem bx2_mk {w w1 : World} {a b c g a' b' c' g' : Value} (h : Bx2 w w1 a b c g) :
    Bx2 w ((((w1.setCell ⟨w.heap.size, 0, none⟩ a').setCell ⟨w.heap.size, 1, none⟩ b').setCell ⟨w.heap.size + 1, 0, none⟩ c').setCell ⟨w.heap.size + 1, 1, none⟩ g') a' b' c' g' := by
  obtain ⟨hB, hz, c0, c1, d0, d1, f⟩ := h
  refine ⟨by (repeat' first | exact Below.refl _ _ | (with_reducible assumption) | (with_reducible refine bAlloc (by first | omega | (simp <;> omega)) ?_) | (with_reducible refine bSet (by first | omega | (simp <;> omega)) ?_) | (with_reducible refine bDrew ?_) | (with_reducible refine bDrewN ?_) | (with_reducible refine bTrans (by with_reducible assumption) (by first | omega | (simp <;> omega)) ?_)), by simpa using hz, ?_, ?_, ?_, ?_, fun k => ?_⟩
  · simp [go_sem, c0]
  · simp [go_sem, c1]
  · simp [go_sem, d0]
  · simp [go_sem, d1]
  · simp [go_sem, f k]
theorem Bx2.next {w W W' : World} {a b c g : Value} (h : Bx2 w W a b c g) (hb : Below W.heap.size W W') : Bx2 w W' a b c g := by
  obtain ⟨hB, hz, c0, c1, d0, d1, f⟩ := h
  have := hb.size
  exact ⟨hB.trans (hb.mono hB.size), by omega, (hb.cell (p := ⟨w.heap.size, 0, none⟩) (by show w.heap.size < _; omega)).trans c0, (hb.cell (p := ⟨w.heap.size, 1, none⟩) (by show w.heap.size < _; omega)).trans c1, (hb.cell (p := ⟨w.heap.size + 1, 0, none⟩) (by show w.heap.size + 1 < _; omega)).trans d0, (hb.cell (p := ⟨w.heap.size + 1, 1, none⟩) (by show w.heap.size + 1 < _; omega)).trans d1,
    fun k => ⟨(hb.frozen (p := ⟨w.heap.size, k, none⟩) (by show w.heap.size < _; omega)).trans (f k).1, (hb.frozen (p := ⟨w.heap.size + 1, k, none⟩) (by show w.heap.size + 1 < _; omega)).trans (f k).2⟩⟩
theorem Bx2.drew {w W : World} {a b c g : Value} (h : Bx2 w W a b c g) : Bx2 w W.drew a b c g := by
  obtain ⟨hB, hz, c0, c1, d0, d1, f⟩ := h
  exact ⟨hB.drew, hz, c0, c1, d0, d1, f⟩
theorem Bx2.new {w : World} {a b c g : Value} (t u : TypeId) : Bx2 w ((w.alloc (.cells #[a, b] t)).alloc (.cells #[c, g] u)) a b c g :=
  ⟨by (repeat' first | exact Below.refl _ _ | (with_reducible assumption) | (with_reducible refine bAlloc (by first | omega | (simp <;> omega)) ?_) | (with_reducible refine bSet (by first | omega | (simp <;> omega)) ?_) | (with_reducible refine bDrew ?_) | (with_reducible refine bDrewN ?_) | (with_reducible refine bTrans (by with_reducible assumption) (by first | omega | (simp <;> omega)) ?_)), by simp, by simp [go_sem], by simp [go_sem], by simp [go_sem], by simp [go_sem], fun k => by simp [go_sem]⟩
set_option maxHeartbeats 2000000 in
set_option maxRecDepth 100000 in
theorem compareW (n d m e : Int) (w : World) (hn : n ≤ 9223372036854775807) (hd : d ≤ 9223372036854775807) (hm : m ≤ 9223372036854775807) (he : e ≤ 9223372036854775807) :
    Calls Tryd.prog 23 #[rv n d, rv m e] w fun e' w' => e' = .returned (.int .i64 (cmpR n d m e)) ∧ Below w.heap.size w w' := by
  have h1 := fun w => heldW n d w
  have h2 := fun w => heldW m e w
  obtain ⟨a0, a1, b0, b1⟩ := held_range hn hd
  obtain ⟨c0, c1, g0, g1⟩ := held_range hm he
  have hM1 := fun w => mulW (heldN n d) (heldD m e) a0 (by omega) (by omega) (by omega) w
  have hM2 := fun w => mulW (heldN m e) (heldD n d) c0 (by omega) (by omega) (by omega) w
  have hz := Lib.hid (cmpZ_halves (heldN n d * heldD m e) (heldN m e * heldD n d))
  have hr := Lib.hid (show cmpR n d m e = cmpZ (heldN n d * heldD m e) (heldN m e * heldD n d) from rfl)
  have hp1 := Int.mul_nonneg a0 (show 0 ≤ heldD m e by omega)
  have hp2 := Int.mul_nonneg c0 (show 0 ≤ heldD n d by omega)
  have hr2 := Lib.hid (hr.out.trans hz.out.symm)
  have h3 := fun w => cmpUW (heldN n d * heldD m e / 18446744073709551616) (heldN m e * heldD n d / 18446744073709551616) w
  have h4 := fun w => cmpUW (heldN n d * heldD m e % 18446744073709551616) (heldN m e * heldD n d % 18446744073709551616) w
  clear hz hr
  generalize cmpZ (heldN n d * heldD m e / 18446744073709551616) (heldN m e * heldD n d / 18446744073709551616) = X at *
  generalize cmpZ (heldN n d * heldD m e % 18446744073709551616) (heldN m e * heldD n d % 18446744073709551616) = Y at *
  generalize heldN n d * heldD m e / 18446744073709551616 = H1 at *
  generalize heldN n d * heldD m e % 18446744073709551616 = L1 at *
  generalize heldN m e * heldD n d / 18446744073709551616 = H2 at *
  generalize heldN m e * heldD n d % 18446744073709551616 = L2 at *
  generalize heldN n d * heldD m e = P1 at *
  generalize heldN m e * heldD n d = P2 at *
  clear hp1 hp2
  generalize heldN n d = a at *
  generalize heldD n d = b at *
  generalize heldN m e = c at *
  generalize heldD m e = g at *
  have hW0 : Bx2 w ((w.alloc (.cells #[.int .i64 n, .int .i64 d] 25)).alloc (.cells #[.int .i64 m, .int .i64 e] 25)) (.int .i64 n) (.int .i64 d) (.int .i64 m) (.int .i64 e) := Bx2.new _ _
  have hW1 := hW0.drew
  go_enter Tryd.func23, Tryd.ntmps23
  go_wp2
  go_region_with (first | (go_at_call 46; (with_reducible refine (h1 _).mono ?_); rintro e w1 ⟨rfl, hxb⟩; (have hWn : Bx2 w w1 (.int .i64 n) (.int .i64 d) (.int .i64 m) (.int .i64 e) := Bx2.next (by with_reducible assumption) hxb); clear hxb; obtain ⟨hxB, hxl0, hxq0, hxq1, hxq2, hxq3, hxf⟩ := id hWn; obtain ⟨hxf0, hxf1⟩ := hxf 0; obtain ⟨hxf2, hxf3⟩ := hxf 1; clear hxf; have hxz := Nat.lt_of_succ_lt hxl0) | (go_at_call 46; (with_reducible refine (h2 _).mono ?_); rintro e w1 ⟨rfl, hxb⟩; (have hWn : Bx2 w w1 (.int .i64 n) (.int .i64 d) (.int .i64 m) (.int .i64 e) := Bx2.next (by with_reducible assumption) hxb); clear hxb; obtain ⟨hxB, hxl0, hxq0, hxq1, hxq2, hxq3, hxf⟩ := id hWn; obtain ⟨hxf0, hxf1⟩ := hxf 0; obtain ⟨hxf2, hxf3⟩ := hxf 1; clear hxf; have hxz := Nat.lt_of_succ_lt hxl0))
  all_goals
    have hW2 := bx2_mk (a' := .int .i64 a) (b' := .int .i64 b) (c' := .int .i64 c) (g' := .int .i64 g) hWn
    generalize ((((w1.setCell ⟨w.heap.size, 0, none⟩ (.int .i64 a)).setCell ⟨w.heap.size, 1, none⟩ (.int .i64 b)).setCell ⟨w.heap.size + 1, 0, none⟩ (.int .i64 c)).setCell ⟨w.heap.size + 1, 1, none⟩ (.int .i64 g)) = wr at hW2 ⊢
    clear hWn hxB hxl0 hxq0 hxq1 hxq2 hxq3 hxf0 hxf1 hxf2 hxf3 hxz
    obtain ⟨hxB, hxl0, hxq0, hxq1, hxq2, hxq3, -⟩ := id hW2
    have hO := orW wr.heap.size X Y (wr.alloc (.cells #[.int .i64 X, .int .i64 Y] 3)) (by simp [go_sem]) (by simp [go_sem])
    have hr3 := hr2.out
    generalize (if X ≠ 0 then X else Y) = V at hO hr3
    have hr4 := Lib.hid hr3
    clear hr3
    go_wp2_with (first | (go_at_call 30; (with_reducible refine (hM1 _).mono ?_); rintro e w' ⟨rfl, rfl⟩) | (go_at_call 30; (with_reducible refine (hM2 _).mono ?_); rintro e w' ⟨rfl, rfl⟩) | (go_at_call 48; (with_reducible refine (h3 _).mono ?_); rintro e w' ⟨rfl, rfl⟩) | (go_at_call 48; (with_reducible refine (h4 _).mono ?_); rintro e w' ⟨rfl, rfl⟩) | (go_at_call 47; (with_reducible refine (hO).mono ?_); rintro e w' ⟨rfl, rfl⟩))
    go_ret
    rw [hr4.out]
    exact ⟨rfl, by (repeat' first | exact Below.refl _ _ | (with_reducible assumption) | (with_reducible refine bAlloc (by first | omega | (simp <;> omega)) ?_) | (with_reducible refine bSet (by first | omega | (simp <;> omega)) ?_) | (with_reducible refine bDrew ?_) | (with_reducible refine bDrewN ?_) | (with_reducible refine bTrans (by with_reducible assumption) (by first | omega | (simp <;> omega)) ?_))⟩
end Go.Proofs.YtgnmjopifdekiaaDoor
