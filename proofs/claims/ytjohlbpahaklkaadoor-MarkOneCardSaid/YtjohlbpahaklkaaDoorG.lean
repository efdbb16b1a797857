/-
  Marks: the reference's Make.
-/
import Derived.Test.YtjohlbpahaklkaaDoorF
namespace Go.Proofs.YtjohlbpahaklkaaDoor
set_option linter.unusedVariables false
set_option linter.unusedSimpArgs false
open Go.RowKit

theorem pad_cons : ∀ (k n : Nat), pad (k + 1) n = UInt8.ofNat (48 + n / 10 ^ k % 10) :: pad k n
  | 0, n => by simp [pad]
  | k + 1, n => by
    rw [pad, pad_cons k (n / 10), pad, List.cons_append, Nat.div_div_eq_div_mul, ← Nat.pow_succ']
theorem conv1 (W : World) (x : Int) : (convert 29 9 (.slice (some ⟨W.heap.size, 0, none⟩) 1 1)).run Tryd.prog (W.alloc (.cells #[.int .u8 x] 5)) = .ok (.string (strOfNums [x])) (W.alloc (.cells #[.int .u8 x] 5)) :=
  run_convert_bytes_arg _ 29 5 Tryd.underlying29 Tryd.underlying5 W.heap.size 0 1 1 [x] rfl (fun i hi => by
    rw [World.cell?_alloc_new]
    match i, hi with
    | 0, _ => rfl) 9 Tryd.underlying9
theorem conv2 (W : World) (x y : Int) : (convert 29 9 (.slice (some ⟨W.heap.size, 0, none⟩) 2 2)).run Tryd.prog (W.alloc (.cells #[.int .u8 x, .int .u8 y] 5)) = .ok (.string (strOfNums [x, y])) (W.alloc (.cells #[.int .u8 x, .int .u8 y] 5)) :=
  run_convert_bytes_arg _ 29 5 Tryd.underlying29 Tryd.underlying5 W.heap.size 0 2 2 [x, y] rfl (fun i hi => by
    rw [World.cell?_alloc_new]
    match i, hi with
    | 0, _ => rfl
    | 1, _ => rfl) 9 Tryd.underlying9
theorem str1_size (x : Int) : (strOfNums [x]).size = 1 := rfl
theorem str2_size (x y : Int) : (strOfNums [x, y]).size = 2 := rfl
theorem str1_pad (k n : Nat) : strOfNums [48 + ((n / 10 ^ k : Nat) : Int) % 10] ++ padB k n = padB (k + 1) n := by
  unfold padB
  rw [pad_cons, show UInt8.ofNat (48 + n / 10 ^ k % 10) :: pad k n = [UInt8.ofNat (48 + n / 10 ^ k % 10)] ++ pad k n from rfl, ← bytes_append]
  have : (48 + ((n / 10 ^ k : Nat) : Int) % 10).toNat = 48 + n / 10 ^ k % 10 := by generalize n / 10 ^ k = q; omega
  unfold strOfNums
  rw [List.map_cons, List.map_nil, this]
theorem str2_pad (c : Nat) (h : c < 100) : strOfNums [48 + (c : Int) / 10, 48 + (c : Int) % 10] = padB 2 c := by
  have e1 : (48 + (c : Int) / 10).toNat = 48 + c / 10 % 10 := by omega
  have e2 : (48 + (c : Int) % 10).toNat = 48 + c % 10 := by omega
  show (⟨#[UInt8.ofNat _, UInt8.ofNat _]⟩ : ByteArray) = _
  rw [e1, e2]
  rfl
set_option maxHeartbeats 400000 in
set_option maxRecDepth 100000 in
theorem refMakeW (o : ByteArray) (n : Nat) (w : World) (hz : o.size = 4) (hl : rng lowI o 0 4 = true) (hn : n < 1000000) :
    Calls Tryd.prog 14 #[.string o, .int .i64 n] w fun e w' => e = .returned (.string (makeB o n)) ∧ Below w.heap.size w w' := by
  have hn' := Lib.hid hn
  clear hn
  have cv1 := conv1
  have cv2 := conv2
  have sz1 := str1_size
  have sz2 := str2_size
  have hS := fun w => refSumW (o ++ padB 6 n) w (by unfold maxLen; rw [ByteArray.size_append, hz, padB_size]; omega)
  have hr := sum_range (head_make o n hz hl)
  obtain ⟨c, hc⟩ := Int.eq_ofNat_of_zero_le hr.1
  rw [hc] at hS hr
  obtain ⟨C, hC⟩ : ∃ C : Int, (c : Int) = C := ⟨_, rfl⟩
  rw [hC] at hS hr
  obtain ⟨r0, r1⟩ := hr
  have hM := Lib.hid (show makeB o n = (o ++ padB 6 n) ++ padB 2 c by unfold makeB; rw [hc]; rfl)
  have h2 := Lib.hid (show strOfNums [48 + C / 10, 48 + C % 10] = padB 2 c by rw [← hC]; exact str2_pad c (by omega))
  clear hc hC hl
  go_enter Tryd.func14, Tryd.ntmps14
  go_wp2
  go_loopw [1, 5, 6] (fun n' s i W => ∃ k : Nat, k ≤ 6 ∧ i = .int .i64 k ∧ n' = .int .i64 (n / 10 ^ k : Nat) ∧ s = .string (padB k n) ∧ Below w.heap.size w W) (fun _ _ i _ => 6 - (intOf i).toNat)
  case atStart => exact ⟨0, Nat.zero_le _, rfl, by simp, rfl, by (repeat' first | exact Below.refl _ _ | (with_reducible assumption) | (with_reducible refine bAlloc (by first | omega | (simp <;> omega)) ?_) | (with_reducible refine bSet (by first | omega | (simp <;> omega)) ?_) | (with_reducible refine bDrew ?_) | (with_reducible refine bDrewN ?_) | (with_reducible refine bTrans (by with_reducible assumption) (by first | omega | (simp <;> omega)) ?_))⟩
  case round =>
    obtain ⟨k, hk, rfl, rfl, rfl, hB⟩ := hrel
    have hz0 := hB.size
    by_cases hlt : k < 6
    · have hq : n / 10 ^ k < 1000000 := Nat.lt_of_le_of_lt (Nat.div_le_self _ _) hn'.out
      have hz := padB_size k n
      obtain ⟨N, hN⟩ : ∃ N : Int, ((n / 10 ^ k : Nat) : Int) = N := ⟨_, rfl⟩
      have h0 : 0 ≤ N := by rw [← hN]; exact Int.natCast_nonneg _
      have h1 : N ≤ 999999 := by rw [← hN]; have := hq; generalize n / 10 ^ k = q at *; omega
      have HN := Lib.hid hN
      rw [hN]
      clear hq hN
      generalize hS : padB k n = S at *
      have HS := Lib.hid hS
      clear hS
      go_wp2
      all_goals
        (go_roundw
         case rel => go_light; exact ⟨k + 1, by omega, by go_num, by rw [← HN.out, Nat.pow_succ, ← Nat.div_div_eq_div_mul]; rfl, by rw [← HS.out, ← str1_pad, HN.out], by (repeat' first | exact Below.refl _ _ | (with_reducible assumption) | (with_reducible refine bAlloc (by first | omega | (simp <;> omega)) ?_) | (with_reducible refine bSet (by first | omega | (simp <;> omega)) ?_) | (with_reducible refine bDrew ?_) | (with_reducible refine bDrewN ?_) | (with_reducible refine bTrans (by with_reducible assumption) (by first | omega | (simp <;> omega)) ?_))⟩
         case measure => simp [intOf]; omega)
    · obtain rfl : k = 6 := by omega
      have hz6 := padB_size 6 n
      generalize hN : ((n / 10 ^ 6 : Nat) : Int) = N
      clear hN
      generalize padB 6 n = D6 at *
      go_wp2_with (go_at_call 13; refine (hS _).mono ?_; rintro e w' ⟨rfl, rfl⟩)
      all_goals (go_ret; go_light; refine ⟨?_, by (repeat' first | exact Below.refl _ _ | (with_reducible assumption) | (with_reducible refine bAlloc (by first | omega | (simp <;> omega)) ?_) | (with_reducible refine bSet (by first | omega | (simp <;> omega)) ?_) | (with_reducible refine bDrew ?_) | (with_reducible refine bDrewN ?_) | (with_reducible refine bTrans (by with_reducible assumption) (by first | omega | (simp <;> omega)) ?_))⟩; rw [hM.out, ← h2.out]; rfl)
end Go.Proofs.YtjohlbpahaklkaaDoor
