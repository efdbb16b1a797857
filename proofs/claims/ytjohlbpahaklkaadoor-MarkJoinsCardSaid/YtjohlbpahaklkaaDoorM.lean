/-
  MarkJoins.
-/
import Derived.Test.YtjohlbpahaklkaaDoorK
namespace Go.Proofs.YtjohlbpahaklkaaDoor
open Go.RowKit

theorem nameI_iff (s : ByteArray) : nameI s = true ↔ (∀ k, k < s.size → okI (byt s k) = true) ∧ 1 ≤ s.size ∧ s.size ≤ 16 := by
  unfold nameI
  simp only [Bool.and_eq_true, decide_eq_true_eq, rng_iff]
  constructor
  · rintro ⟨⟨h, h1⟩, h2⟩
    exact ⟨fun k hk => h k (by omega) (by omega), by omega, by omega⟩
  · rintro ⟨h, h1, h2⟩
    exact ⟨⟨fun k _ hk => h k (by omega), by omega⟩, by omega⟩
theorem name_join {s t : ByteArray} (h1 : nameI s = true) (h2 : nameI t = true) : nameI (s ++ t) = decide ((s.size : Int) + t.size ≤ 16) := by
  obtain ⟨a1, b1, -⟩ := (nameI_iff s).1 h1
  obtain ⟨a2, b2, -⟩ := (nameI_iff t).1 h2
  rw [Bool.eq_iff_iff, nameI_iff, decide_eq_true_eq, ByteArray.size_append]
  constructor
  · rintro ⟨-, -, h⟩; omega
  · intro h
    refine ⟨fun k hk => ?_, by omega, by omega⟩
    rw [byt_append]
    split
    · exact a1 k (by omega)
    · exact a2 _ (by omega)
theorem name_part {s : ByteArray} (h1 : nameI s = true) (a b : Nat) (hb : b ≤ s.size) (hab : a ≤ b) : nameI (s.extract a b) = decide (a < b) := by
  obtain ⟨a1, b1, c1⟩ := (nameI_iff s).1 h1
  rw [Bool.eq_iff_iff, nameI_iff, decide_eq_true_eq, size_extract s a b hb]
  constructor
  · rintro ⟨-, h, -⟩; omega
  · intro h
    refine ⟨fun k hk => ?_, by omega, by omega⟩
    rw [byt_extract _ _ _ _ hb, if_pos (by omega)]
    exact a1 _ (by omega)
theorem right_name {s : ByteArray} (h : rightB s = true) : nameI s = true := by
  have hz := right_size h
  refine (nameI_iff s).2 ⟨fun k hk => ?_, by omega, by omega⟩
  unfold okI
  by_cases h4 : k < 4
  · rw [head_low (right_low h) k h4]; rfl
  · by_cases h10 : k < 10
    · rw [head_dig (right_dig h) k (by omega) h10]; simp
    · rw [(rng_iff digI _ 2 10).1 (right_chk h) k (by omega) (by omega)]; simp
theorem right_num {s : ByteArray} (h : rightB s = true) : 0 ≤ numberZ s := by
  unfold numberZ
  rw [if_pos h]
  exact (num_bound s 4 6 (fun j h1 h2 => (rng_iff digI s 6 4).1 (right_dig h) j h1 h2)).1
theorem nat_lt (a b : Nat) : decide (a < b) = decide ((a : Int) < b) := by simp

set_option maxHeartbeats 1000000 in
set_option maxRecDepth 10000 in
/-- the walk, over the answers of Name and Right -/
theorem joinsCore (s t : ByteArray) (c : Nat) (w : World) (hs : s.size ≤ maxLen) (hlen : (s.size : Int) ≤ 40) (hlen' : (t.size : Int) ≤ 40) (hc : c ≤ s.size) (hcI : (c : Int) ≤ s.size) (N1 N2 N3 R : Bool)
    (hA : ∀ w, Tb w → Calls Tryd.prog 11 #[] w fun e w' => e = .returned (.bool true) ∧ Below w.heap.size w w') (hT : Tb w)
    (h1 : ∀ w, Calls Tryd.prog 18 #[.string s] w fun e w' => e = .returned (.bool N1) ∧ w = w')
    (h2 : ∀ w, Calls Tryd.prog 18 #[.string t] w fun e w' => e = .returned (.bool N2) ∧ w = w')
    (h3 : ∀ w, Calls Tryd.prog 18 #[.string (s ++ t)] w fun e w' => e = .returned (.bool N3) ∧ w = w')
    (h4 : N1 = true → ∀ w, Calls Tryd.prog 18 #[.string (s.extract 0 c)] w fun e w' => e = .returned (.bool (decide (0 < (c : Int)))) ∧ w = w')
    (h5 : N1 = true → ∀ w, Calls Tryd.prog 18 #[.string (s.extract c s.size)] w fun e w' => e = .returned (.bool (decide ((c : Int) < s.size))) ∧ w = w')
    (h6 : ∀ w, Calls Tryd.prog 15 #[.string s] w fun e w' => e = .returned (.bool R) ∧ Below w.heap.size w w')
    (h7 : R = true → ∃ O N, s.size = 12 ∧ 0 ≤ N ∧ (∀ w, Calls Tryd.prog 21 #[.string s] w fun e w' => e = .returned (.string O) ∧ Below w.heap.size w w') ∧ (∀ w, Calls Tryd.prog 18 #[.string O] w fun e w' => e = .returned (.bool true) ∧ w = w')
      ∧ (∀ w, Calls Tryd.prog 18 #[.string (s.extract 4 10)] w fun e w' => e = .returned (.bool true) ∧ w = w') ∧ (∀ w, Calls Tryd.prog 22 #[.string s] w fun e w' => e = .returned (.int .i64 N) ∧ Below w.heap.size w w'))
    (hb : N1 = true → N2 = true → N3 = decide ((s.size : Int) + t.size ≤ 16)) (hb' : N3 = true → (s.size : Int) + t.size ≤ 16) (hR1 : N1 = false → R = false) :
    Calls Tryd.prog 7 #[.string s, .string t, .int .i64 c] w fun e w' => e = .returned (.bool true) ∧ Below w.heap.size w w' := by
  unfold maxLen at hs
  cases N1 with
  | false =>
    obtain rfl := hR1 rfl
    clear h4 h5 h7 hb hR1
    cases N3 with
    | false =>
      clear hb'
      go_enter Tryd.func7, Tryd.ntmps7
      go_wp2_with (first | (go_at_call 11; refine (hA _ hT).mono ?_; rintro e w1 ⟨rfl, hxb⟩; (obtain ⟨hxc, hxf⟩ := bcell hxb; have hxz := hxb.size; (try simp [Nat.succ_le_iff] at hxz); (try have hxy := Nat.lt_of_succ_lt hxz); (try have hxy2 := Nat.lt_of_succ_lt hxy); (try have hxy3 := Nat.lt_of_succ_lt hxy2); (try have hxy4 := Nat.lt_of_succ_lt hxy3); have hxB : Below w.heap.size w w1 := (by (repeat' first | exact Below.refl _ _ | (with_reducible assumption) | (with_reducible refine bAlloc (by first | omega | (simp <;> omega)) ?_) | (with_reducible refine bSet (by first | omega | (simp <;> omega)) ?_) | (with_reducible refine bDrew ?_) | (with_reducible refine bDrewN ?_) | (with_reducible refine bTrans (by with_reducible assumption) (by first | omega | (simp <;> omega)) ?_))); have hxk := below_all hxB; (try have hxl0 : w.heap.size < w1.heap.size := (by omega)); (try have hxl1 : w.heap.size + 1 < w1.heap.size := (by omega)); (try have hxl2 : w.heap.size + 2 < w1.heap.size := (by omega)))) | (go_at_call 18; with_reducible refine (h1 _).mono ?_; rintro e w' ⟨rfl, rfl⟩) | (go_at_call 18; refine (h3 _).mono ?_; rintro e w' ⟨rfl, rfl⟩) | (go_at_call 15; refine (h6 _).mono ?_; rintro e w1 ⟨rfl, hxb⟩; (obtain ⟨hxc, hxf⟩ := bcell hxb; have hxz := hxb.size; (try simp [Nat.succ_le_iff] at hxz); (try have hxy := Nat.lt_of_succ_lt hxz); (try have hxy2 := Nat.lt_of_succ_lt hxy); (try have hxy3 := Nat.lt_of_succ_lt hxy2); (try have hxy4 := Nat.lt_of_succ_lt hxy3); have hxB : Below w.heap.size w w1 := (by (repeat' first | exact Below.refl _ _ | (with_reducible assumption) | (with_reducible refine bAlloc (by first | omega | (simp <;> omega)) ?_) | (with_reducible refine bSet (by first | omega | (simp <;> omega)) ?_) | (with_reducible refine bDrew ?_) | (with_reducible refine bDrewN ?_) | (with_reducible refine bTrans (by with_reducible assumption) (by first | omega | (simp <;> omega)) ?_))); have hxk := below_all hxB; (try have hxl0 : w.heap.size < w1.heap.size := (by omega)); (try have hxl1 : w.heap.size + 1 < w1.heap.size := (by omega)); (try have hxl2 : w.heap.size + 2 < w1.heap.size := (by omega)))))
      all_goals (go_ret; go_light; exact ⟨rfl, by (repeat' first | exact Below.refl _ _ | (with_reducible assumption) | (with_reducible refine bAlloc (by first | omega | (simp <;> omega)) ?_) | (with_reducible refine bSet (by first | omega | (simp <;> omega)) ?_) | (with_reducible refine bDrew ?_) | (with_reducible refine bDrewN ?_) | (with_reducible refine bTrans (by with_reducible assumption) (by first | omega | (simp <;> omega)) ?_))⟩)
    | true =>
      have hb2 := hb' rfl
      clear hb'
      go_enter Tryd.func7, Tryd.ntmps7
      go_wp2_with (first | (go_at_call 11; refine (hA _ hT).mono ?_; rintro e w1 ⟨rfl, hxb⟩; (obtain ⟨hxc, hxf⟩ := bcell hxb; have hxz := hxb.size; (try simp [Nat.succ_le_iff] at hxz); (try have hxy := Nat.lt_of_succ_lt hxz); (try have hxy2 := Nat.lt_of_succ_lt hxy); (try have hxy3 := Nat.lt_of_succ_lt hxy2); (try have hxy4 := Nat.lt_of_succ_lt hxy3); have hxB : Below w.heap.size w w1 := (by (repeat' first | exact Below.refl _ _ | (with_reducible assumption) | (with_reducible refine bAlloc (by first | omega | (simp <;> omega)) ?_) | (with_reducible refine bSet (by first | omega | (simp <;> omega)) ?_) | (with_reducible refine bDrew ?_) | (with_reducible refine bDrewN ?_) | (with_reducible refine bTrans (by with_reducible assumption) (by first | omega | (simp <;> omega)) ?_))); have hxk := below_all hxB; (try have hxl0 : w.heap.size < w1.heap.size := (by omega)); (try have hxl1 : w.heap.size + 1 < w1.heap.size := (by omega)); (try have hxl2 : w.heap.size + 2 < w1.heap.size := (by omega)))) | (go_at_call 18; with_reducible refine (h1 _).mono ?_; rintro e w' ⟨rfl, rfl⟩) | (go_at_call 18; refine (h3 _).mono ?_; rintro e w' ⟨rfl, rfl⟩) | (go_at_call 15; refine (h6 _).mono ?_; rintro e w1 ⟨rfl, hxb⟩; (obtain ⟨hxc, hxf⟩ := bcell hxb; have hxz := hxb.size; (try simp [Nat.succ_le_iff] at hxz); (try have hxy := Nat.lt_of_succ_lt hxz); (try have hxy2 := Nat.lt_of_succ_lt hxy); (try have hxy3 := Nat.lt_of_succ_lt hxy2); (try have hxy4 := Nat.lt_of_succ_lt hxy3); have hxB : Below w.heap.size w w1 := (by (repeat' first | exact Below.refl _ _ | (with_reducible assumption) | (with_reducible refine bAlloc (by first | omega | (simp <;> omega)) ?_) | (with_reducible refine bSet (by first | omega | (simp <;> omega)) ?_) | (with_reducible refine bDrew ?_) | (with_reducible refine bDrewN ?_) | (with_reducible refine bTrans (by with_reducible assumption) (by first | omega | (simp <;> omega)) ?_))); have hxk := below_all hxB; (try have hxl0 : w.heap.size < w1.heap.size := (by omega)); (try have hxl1 : w.heap.size + 1 < w1.heap.size := (by omega)); (try have hxl2 : w.heap.size + 2 < w1.heap.size := (by omega)))))
      all_goals first | (go_ret; go_light; exact ⟨rfl, by (repeat' first | exact Below.refl _ _ | (with_reducible assumption) | (with_reducible refine bAlloc (by first | omega | (simp <;> omega)) ?_) | (with_reducible refine bSet (by first | omega | (simp <;> omega)) ?_) | (with_reducible refine bDrew ?_) | (with_reducible refine bDrewN ?_) | (with_reducible refine bTrans (by with_reducible assumption) (by first | omega | (simp <;> omega)) ?_))⟩) | (exfalso; omega)
  | true =>
    clear hR1
    have k4 := h4 rfl
    have k5 := h5 rfl
    clear h4 h5
    cases N2 with
    | false =>
      clear hb
      cases N3 with
      | false =>
        clear hb'
        cases R with
        | false =>
          clear h7
          go_enter Tryd.func7, Tryd.ntmps7
          go_wp2_with (first | (go_at_call 11; refine (hA _ hT).mono ?_; rintro e w1 ⟨rfl, hxb⟩; (obtain ⟨hxc, hxf⟩ := bcell hxb; have hxz := hxb.size; (try simp [Nat.succ_le_iff] at hxz); (try have hxy := Nat.lt_of_succ_lt hxz); (try have hxy2 := Nat.lt_of_succ_lt hxy); (try have hxy3 := Nat.lt_of_succ_lt hxy2); (try have hxy4 := Nat.lt_of_succ_lt hxy3); have hxB : Below w.heap.size w w1 := (by (repeat' first | exact Below.refl _ _ | (with_reducible assumption) | (with_reducible refine bAlloc (by first | omega | (simp <;> omega)) ?_) | (with_reducible refine bSet (by first | omega | (simp <;> omega)) ?_) | (with_reducible refine bDrew ?_) | (with_reducible refine bDrewN ?_) | (with_reducible refine bTrans (by with_reducible assumption) (by first | omega | (simp <;> omega)) ?_))); have hxk := below_all hxB; (try have hxl0 : w.heap.size < w1.heap.size := (by omega)); (try have hxl1 : w.heap.size + 1 < w1.heap.size := (by omega)); (try have hxl2 : w.heap.size + 2 < w1.heap.size := (by omega)))) | (go_at_call 18; (first | (with_reducible refine (h1 _).mono ?_; rintro e w' ⟨rfl, rfl⟩) | (with_reducible refine (h2 _).mono ?_; rintro e w' ⟨rfl, rfl⟩) | (with_reducible refine (k4 _).mono ?_; rintro e w' ⟨rfl, rfl⟩) | (with_reducible refine (k5 _).mono ?_; rintro e w' ⟨rfl, rfl⟩) | (refine (h3 _).mono ?_; rintro e w' ⟨rfl, rfl⟩))) | (go_at_call 15; refine (h6 _).mono ?_; rintro e w1 ⟨rfl, hxb⟩; (obtain ⟨hxc, hxf⟩ := bcell hxb; have hxz := hxb.size; (try simp [Nat.succ_le_iff] at hxz); (try have hxy := Nat.lt_of_succ_lt hxz); (try have hxy2 := Nat.lt_of_succ_lt hxy); (try have hxy3 := Nat.lt_of_succ_lt hxy2); (try have hxy4 := Nat.lt_of_succ_lt hxy3); have hxB : Below w.heap.size w w1 := (by (repeat' first | exact Below.refl _ _ | (with_reducible assumption) | (with_reducible refine bAlloc (by first | omega | (simp <;> omega)) ?_) | (with_reducible refine bSet (by first | omega | (simp <;> omega)) ?_) | (with_reducible refine bDrew ?_) | (with_reducible refine bDrewN ?_) | (with_reducible refine bTrans (by with_reducible assumption) (by first | omega | (simp <;> omega)) ?_))); have hxk := below_all hxB; (try have hxl0 : w.heap.size < w1.heap.size := (by omega)); (try have hxl1 : w.heap.size + 1 < w1.heap.size := (by omega)); (try have hxl2 : w.heap.size + 2 < w1.heap.size := (by omega)))))
          all_goals first | (go_ret; go_light; exact ⟨rfl, by (repeat' first | exact Below.refl _ _ | (with_reducible assumption) | (with_reducible refine bAlloc (by first | omega | (simp <;> omega)) ?_) | (with_reducible refine bSet (by first | omega | (simp <;> omega)) ?_) | (with_reducible refine bDrew ?_) | (with_reducible refine bDrewN ?_) | (with_reducible refine bTrans (by with_reducible assumption) (by first | omega | (simp <;> omega)) ?_))⟩) | (exfalso; omega) | (exfalso; simp_all; done)
        | true =>
          obtain ⟨O, N, hz, hN0, hW, hO, hX, hN⟩ := h7 rfl
          rw [hz] at k5
          have hzI : (s.size : Int) = 12 := by omega
          go_enter Tryd.func7, Tryd.ntmps7
          go_wp2_with (first | (go_at_call 11; refine (hA _ hT).mono ?_; rintro e w1 ⟨rfl, hxb⟩; (obtain ⟨hxc, hxf⟩ := bcell hxb; have hxz := hxb.size; (try simp [Nat.succ_le_iff] at hxz); (try have hxy := Nat.lt_of_succ_lt hxz); (try have hxy2 := Nat.lt_of_succ_lt hxy); (try have hxy3 := Nat.lt_of_succ_lt hxy2); (try have hxy4 := Nat.lt_of_succ_lt hxy3); have hxB : Below w.heap.size w w1 := (by (repeat' first | exact Below.refl _ _ | (with_reducible assumption) | (with_reducible refine bAlloc (by first | omega | (simp <;> omega)) ?_) | (with_reducible refine bSet (by first | omega | (simp <;> omega)) ?_) | (with_reducible refine bDrew ?_) | (with_reducible refine bDrewN ?_) | (with_reducible refine bTrans (by with_reducible assumption) (by first | omega | (simp <;> omega)) ?_))); have hxk := below_all hxB; (try have hxl0 : w.heap.size < w1.heap.size := (by omega)); (try have hxl1 : w.heap.size + 1 < w1.heap.size := (by omega)); (try have hxl2 : w.heap.size + 2 < w1.heap.size := (by omega)))) | (go_at_call 18; (first | (with_reducible refine (h1 _).mono ?_; rintro e w' ⟨rfl, rfl⟩) | (with_reducible refine (h2 _).mono ?_; rintro e w' ⟨rfl, rfl⟩) | (with_reducible refine (k4 _).mono ?_; rintro e w' ⟨rfl, rfl⟩) | (with_reducible refine (k5 _).mono ?_; rintro e w' ⟨rfl, rfl⟩) | (with_reducible refine (hO _).mono ?_; rintro e w' ⟨rfl, rfl⟩) | (with_reducible refine (hX _).mono ?_; rintro e w' ⟨rfl, rfl⟩) | (refine (h3 _).mono ?_; rintro e w' ⟨rfl, rfl⟩))) | (go_at_call 15; refine (h6 _).mono ?_; rintro e w1 ⟨rfl, hxb⟩; (obtain ⟨hxc, hxf⟩ := bcell hxb; have hxz := hxb.size; (try simp [Nat.succ_le_iff] at hxz); (try have hxy := Nat.lt_of_succ_lt hxz); (try have hxy2 := Nat.lt_of_succ_lt hxy); (try have hxy3 := Nat.lt_of_succ_lt hxy2); (try have hxy4 := Nat.lt_of_succ_lt hxy3); have hxB : Below w.heap.size w w1 := (by (repeat' first | exact Below.refl _ _ | (with_reducible assumption) | (with_reducible refine bAlloc (by first | omega | (simp <;> omega)) ?_) | (with_reducible refine bSet (by first | omega | (simp <;> omega)) ?_) | (with_reducible refine bDrew ?_) | (with_reducible refine bDrewN ?_) | (with_reducible refine bTrans (by with_reducible assumption) (by first | omega | (simp <;> omega)) ?_))); have hxk := below_all hxB; (try have hxl0 : w.heap.size < w1.heap.size := (by omega)); (try have hxl1 : w.heap.size + 1 < w1.heap.size := (by omega)); (try have hxl2 : w.heap.size + 2 < w1.heap.size := (by omega)))) | (go_at_call 21; refine (hW _).mono ?_; rintro e w1 ⟨rfl, hxb⟩; (obtain ⟨hxc, hxf⟩ := bcell hxb; have hxz := hxb.size; (try simp [Nat.succ_le_iff] at hxz); (try have hxy := Nat.lt_of_succ_lt hxz); (try have hxy2 := Nat.lt_of_succ_lt hxy); (try have hxy3 := Nat.lt_of_succ_lt hxy2); (try have hxy4 := Nat.lt_of_succ_lt hxy3); have hxB : Below w.heap.size w w1 := (by (repeat' first | exact Below.refl _ _ | (with_reducible assumption) | (with_reducible refine bAlloc (by first | omega | (simp <;> omega)) ?_) | (with_reducible refine bSet (by first | omega | (simp <;> omega)) ?_) | (with_reducible refine bDrew ?_) | (with_reducible refine bDrewN ?_) | (with_reducible refine bTrans (by with_reducible assumption) (by first | omega | (simp <;> omega)) ?_))); have hxk := below_all hxB; (try have hxl0 : w.heap.size < w1.heap.size := (by omega)); (try have hxl1 : w.heap.size + 1 < w1.heap.size := (by omega)); (try have hxl2 : w.heap.size + 2 < w1.heap.size := (by omega)))) | (go_at_call 22; refine (hN _).mono ?_; rintro e w1 ⟨rfl, hxb⟩; (obtain ⟨hxc, hxf⟩ := bcell hxb; have hxz := hxb.size; (try simp [Nat.succ_le_iff] at hxz); (try have hxy := Nat.lt_of_succ_lt hxz); (try have hxy2 := Nat.lt_of_succ_lt hxy); (try have hxy3 := Nat.lt_of_succ_lt hxy2); (try have hxy4 := Nat.lt_of_succ_lt hxy3); have hxB : Below w.heap.size w w1 := (by (repeat' first | exact Below.refl _ _ | (with_reducible assumption) | (with_reducible refine bAlloc (by first | omega | (simp <;> omega)) ?_) | (with_reducible refine bSet (by first | omega | (simp <;> omega)) ?_) | (with_reducible refine bDrew ?_) | (with_reducible refine bDrewN ?_) | (with_reducible refine bTrans (by with_reducible assumption) (by first | omega | (simp <;> omega)) ?_))); have hxk := below_all hxB; (try have hxl0 : w.heap.size < w1.heap.size := (by omega)); (try have hxl1 : w.heap.size + 1 < w1.heap.size := (by omega)); (try have hxl2 : w.heap.size + 2 < w1.heap.size := (by omega)))))
          all_goals first | (go_ret; go_light; exact ⟨rfl, by (repeat' first | exact Below.refl _ _ | (with_reducible assumption) | (with_reducible refine bAlloc (by first | omega | (simp <;> omega)) ?_) | (with_reducible refine bSet (by first | omega | (simp <;> omega)) ?_) | (with_reducible refine bDrew ?_) | (with_reducible refine bDrewN ?_) | (with_reducible refine bTrans (by with_reducible assumption) (by first | omega | (simp <;> omega)) ?_))⟩) | (exfalso; omega) | (exfalso; simp_all; done)
      | true =>
        have hb2 := hb' rfl
        clear hb'
        cases R with
        | false =>
          clear h7
          go_enter Tryd.func7, Tryd.ntmps7
          go_wp2_with (first | (go_at_call 11; refine (hA _ hT).mono ?_; rintro e w1 ⟨rfl, hxb⟩; (obtain ⟨hxc, hxf⟩ := bcell hxb; have hxz := hxb.size; (try simp [Nat.succ_le_iff] at hxz); (try have hxy := Nat.lt_of_succ_lt hxz); (try have hxy2 := Nat.lt_of_succ_lt hxy); (try have hxy3 := Nat.lt_of_succ_lt hxy2); (try have hxy4 := Nat.lt_of_succ_lt hxy3); have hxB : Below w.heap.size w w1 := (by (repeat' first | exact Below.refl _ _ | (with_reducible assumption) | (with_reducible refine bAlloc (by first | omega | (simp <;> omega)) ?_) | (with_reducible refine bSet (by first | omega | (simp <;> omega)) ?_) | (with_reducible refine bDrew ?_) | (with_reducible refine bDrewN ?_) | (with_reducible refine bTrans (by with_reducible assumption) (by first | omega | (simp <;> omega)) ?_))); have hxk := below_all hxB; (try have hxl0 : w.heap.size < w1.heap.size := (by omega)); (try have hxl1 : w.heap.size + 1 < w1.heap.size := (by omega)); (try have hxl2 : w.heap.size + 2 < w1.heap.size := (by omega)))) | (go_at_call 18; (first | (with_reducible refine (h1 _).mono ?_; rintro e w' ⟨rfl, rfl⟩) | (with_reducible refine (h2 _).mono ?_; rintro e w' ⟨rfl, rfl⟩) | (with_reducible refine (k4 _).mono ?_; rintro e w' ⟨rfl, rfl⟩) | (with_reducible refine (k5 _).mono ?_; rintro e w' ⟨rfl, rfl⟩) | (refine (h3 _).mono ?_; rintro e w' ⟨rfl, rfl⟩))) | (go_at_call 15; refine (h6 _).mono ?_; rintro e w1 ⟨rfl, hxb⟩; (obtain ⟨hxc, hxf⟩ := bcell hxb; have hxz := hxb.size; (try simp [Nat.succ_le_iff] at hxz); (try have hxy := Nat.lt_of_succ_lt hxz); (try have hxy2 := Nat.lt_of_succ_lt hxy); (try have hxy3 := Nat.lt_of_succ_lt hxy2); (try have hxy4 := Nat.lt_of_succ_lt hxy3); have hxB : Below w.heap.size w w1 := (by (repeat' first | exact Below.refl _ _ | (with_reducible assumption) | (with_reducible refine bAlloc (by first | omega | (simp <;> omega)) ?_) | (with_reducible refine bSet (by first | omega | (simp <;> omega)) ?_) | (with_reducible refine bDrew ?_) | (with_reducible refine bDrewN ?_) | (with_reducible refine bTrans (by with_reducible assumption) (by first | omega | (simp <;> omega)) ?_))); have hxk := below_all hxB; (try have hxl0 : w.heap.size < w1.heap.size := (by omega)); (try have hxl1 : w.heap.size + 1 < w1.heap.size := (by omega)); (try have hxl2 : w.heap.size + 2 < w1.heap.size := (by omega)))))
          all_goals first | (go_ret; go_light; exact ⟨rfl, by (repeat' first | exact Below.refl _ _ | (with_reducible assumption) | (with_reducible refine bAlloc (by first | omega | (simp <;> omega)) ?_) | (with_reducible refine bSet (by first | omega | (simp <;> omega)) ?_) | (with_reducible refine bDrew ?_) | (with_reducible refine bDrewN ?_) | (with_reducible refine bTrans (by with_reducible assumption) (by first | omega | (simp <;> omega)) ?_))⟩) | (exfalso; omega) | (exfalso; simp_all; done)
        | true =>
          obtain ⟨O, N, hz, hN0, hW, hO, hX, hN⟩ := h7 rfl
          rw [hz] at k5
          have hzI : (s.size : Int) = 12 := by omega
          go_enter Tryd.func7, Tryd.ntmps7
          go_wp2_with (first | (go_at_call 11; refine (hA _ hT).mono ?_; rintro e w1 ⟨rfl, hxb⟩; (obtain ⟨hxc, hxf⟩ := bcell hxb; have hxz := hxb.size; (try simp [Nat.succ_le_iff] at hxz); (try have hxy := Nat.lt_of_succ_lt hxz); (try have hxy2 := Nat.lt_of_succ_lt hxy); (try have hxy3 := Nat.lt_of_succ_lt hxy2); (try have hxy4 := Nat.lt_of_succ_lt hxy3); have hxB : Below w.heap.size w w1 := (by (repeat' first | exact Below.refl _ _ | (with_reducible assumption) | (with_reducible refine bAlloc (by first | omega | (simp <;> omega)) ?_) | (with_reducible refine bSet (by first | omega | (simp <;> omega)) ?_) | (with_reducible refine bDrew ?_) | (with_reducible refine bDrewN ?_) | (with_reducible refine bTrans (by with_reducible assumption) (by first | omega | (simp <;> omega)) ?_))); have hxk := below_all hxB; (try have hxl0 : w.heap.size < w1.heap.size := (by omega)); (try have hxl1 : w.heap.size + 1 < w1.heap.size := (by omega)); (try have hxl2 : w.heap.size + 2 < w1.heap.size := (by omega)))) | (go_at_call 18; (first | (with_reducible refine (h1 _).mono ?_; rintro e w' ⟨rfl, rfl⟩) | (with_reducible refine (h2 _).mono ?_; rintro e w' ⟨rfl, rfl⟩) | (with_reducible refine (k4 _).mono ?_; rintro e w' ⟨rfl, rfl⟩) | (with_reducible refine (k5 _).mono ?_; rintro e w' ⟨rfl, rfl⟩) | (with_reducible refine (hO _).mono ?_; rintro e w' ⟨rfl, rfl⟩) | (with_reducible refine (hX _).mono ?_; rintro e w' ⟨rfl, rfl⟩) | (refine (h3 _).mono ?_; rintro e w' ⟨rfl, rfl⟩))) | (go_at_call 15; refine (h6 _).mono ?_; rintro e w1 ⟨rfl, hxb⟩; (obtain ⟨hxc, hxf⟩ := bcell hxb; have hxz := hxb.size; (try simp [Nat.succ_le_iff] at hxz); (try have hxy := Nat.lt_of_succ_lt hxz); (try have hxy2 := Nat.lt_of_succ_lt hxy); (try have hxy3 := Nat.lt_of_succ_lt hxy2); (try have hxy4 := Nat.lt_of_succ_lt hxy3); have hxB : Below w.heap.size w w1 := (by (repeat' first | exact Below.refl _ _ | (with_reducible assumption) | (with_reducible refine bAlloc (by first | omega | (simp <;> omega)) ?_) | (with_reducible refine bSet (by first | omega | (simp <;> omega)) ?_) | (with_reducible refine bDrew ?_) | (with_reducible refine bDrewN ?_) | (with_reducible refine bTrans (by with_reducible assumption) (by first | omega | (simp <;> omega)) ?_))); have hxk := below_all hxB; (try have hxl0 : w.heap.size < w1.heap.size := (by omega)); (try have hxl1 : w.heap.size + 1 < w1.heap.size := (by omega)); (try have hxl2 : w.heap.size + 2 < w1.heap.size := (by omega)))) | (go_at_call 21; refine (hW _).mono ?_; rintro e w1 ⟨rfl, hxb⟩; (obtain ⟨hxc, hxf⟩ := bcell hxb; have hxz := hxb.size; (try simp [Nat.succ_le_iff] at hxz); (try have hxy := Nat.lt_of_succ_lt hxz); (try have hxy2 := Nat.lt_of_succ_lt hxy); (try have hxy3 := Nat.lt_of_succ_lt hxy2); (try have hxy4 := Nat.lt_of_succ_lt hxy3); have hxB : Below w.heap.size w w1 := (by (repeat' first | exact Below.refl _ _ | (with_reducible assumption) | (with_reducible refine bAlloc (by first | omega | (simp <;> omega)) ?_) | (with_reducible refine bSet (by first | omega | (simp <;> omega)) ?_) | (with_reducible refine bDrew ?_) | (with_reducible refine bDrewN ?_) | (with_reducible refine bTrans (by with_reducible assumption) (by first | omega | (simp <;> omega)) ?_))); have hxk := below_all hxB; (try have hxl0 : w.heap.size < w1.heap.size := (by omega)); (try have hxl1 : w.heap.size + 1 < w1.heap.size := (by omega)); (try have hxl2 : w.heap.size + 2 < w1.heap.size := (by omega)))) | (go_at_call 22; refine (hN _).mono ?_; rintro e w1 ⟨rfl, hxb⟩; (obtain ⟨hxc, hxf⟩ := bcell hxb; have hxz := hxb.size; (try simp [Nat.succ_le_iff] at hxz); (try have hxy := Nat.lt_of_succ_lt hxz); (try have hxy2 := Nat.lt_of_succ_lt hxy); (try have hxy3 := Nat.lt_of_succ_lt hxy2); (try have hxy4 := Nat.lt_of_succ_lt hxy3); have hxB : Below w.heap.size w w1 := (by (repeat' first | exact Below.refl _ _ | (with_reducible assumption) | (with_reducible refine bAlloc (by first | omega | (simp <;> omega)) ?_) | (with_reducible refine bSet (by first | omega | (simp <;> omega)) ?_) | (with_reducible refine bDrew ?_) | (with_reducible refine bDrewN ?_) | (with_reducible refine bTrans (by with_reducible assumption) (by first | omega | (simp <;> omega)) ?_))); have hxk := below_all hxB; (try have hxl0 : w.heap.size < w1.heap.size := (by omega)); (try have hxl1 : w.heap.size + 1 < w1.heap.size := (by omega)); (try have hxl2 : w.heap.size + 2 < w1.heap.size := (by omega)))))
          all_goals first | (go_ret; go_light; exact ⟨rfl, by (repeat' first | exact Below.refl _ _ | (with_reducible assumption) | (with_reducible refine bAlloc (by first | omega | (simp <;> omega)) ?_) | (with_reducible refine bSet (by first | omega | (simp <;> omega)) ?_) | (with_reducible refine bDrew ?_) | (with_reducible refine bDrewN ?_) | (with_reducible refine bTrans (by with_reducible assumption) (by first | omega | (simp <;> omega)) ?_))⟩) | (exfalso; omega) | (exfalso; simp_all; done)
    | true =>
      obtain rfl := hb rfl rfl
      clear hb hb'
      cases R with
      | false =>
        clear h7
        go_enter Tryd.func7, Tryd.ntmps7
        go_wp2_with (first | (go_at_call 11; refine (hA _ hT).mono ?_; rintro e w1 ⟨rfl, hxb⟩; (obtain ⟨hxc, hxf⟩ := bcell hxb; have hxz := hxb.size; (try simp [Nat.succ_le_iff] at hxz); (try have hxy := Nat.lt_of_succ_lt hxz); (try have hxy2 := Nat.lt_of_succ_lt hxy); (try have hxy3 := Nat.lt_of_succ_lt hxy2); (try have hxy4 := Nat.lt_of_succ_lt hxy3); have hxB : Below w.heap.size w w1 := (by (repeat' first | exact Below.refl _ _ | (with_reducible assumption) | (with_reducible refine bAlloc (by first | omega | (simp <;> omega)) ?_) | (with_reducible refine bSet (by first | omega | (simp <;> omega)) ?_) | (with_reducible refine bDrew ?_) | (with_reducible refine bDrewN ?_) | (with_reducible refine bTrans (by with_reducible assumption) (by first | omega | (simp <;> omega)) ?_))); have hxk := below_all hxB; (try have hxl0 : w.heap.size < w1.heap.size := (by omega)); (try have hxl1 : w.heap.size + 1 < w1.heap.size := (by omega)); (try have hxl2 : w.heap.size + 2 < w1.heap.size := (by omega)))) | (go_at_call 18; (first | (with_reducible refine (h1 _).mono ?_; rintro e w' ⟨rfl, rfl⟩) | (with_reducible refine (h2 _).mono ?_; rintro e w' ⟨rfl, rfl⟩) | (with_reducible refine (k4 _).mono ?_; rintro e w' ⟨rfl, rfl⟩) | (with_reducible refine (k5 _).mono ?_; rintro e w' ⟨rfl, rfl⟩) | (refine (h3 _).mono ?_; rintro e w' ⟨rfl, rfl⟩))) | (go_at_call 15; refine (h6 _).mono ?_; rintro e w1 ⟨rfl, hxb⟩; (obtain ⟨hxc, hxf⟩ := bcell hxb; have hxz := hxb.size; (try simp [Nat.succ_le_iff] at hxz); (try have hxy := Nat.lt_of_succ_lt hxz); (try have hxy2 := Nat.lt_of_succ_lt hxy); (try have hxy3 := Nat.lt_of_succ_lt hxy2); (try have hxy4 := Nat.lt_of_succ_lt hxy3); have hxB : Below w.heap.size w w1 := (by (repeat' first | exact Below.refl _ _ | (with_reducible assumption) | (with_reducible refine bAlloc (by first | omega | (simp <;> omega)) ?_) | (with_reducible refine bSet (by first | omega | (simp <;> omega)) ?_) | (with_reducible refine bDrew ?_) | (with_reducible refine bDrewN ?_) | (with_reducible refine bTrans (by with_reducible assumption) (by first | omega | (simp <;> omega)) ?_))); have hxk := below_all hxB; (try have hxl0 : w.heap.size < w1.heap.size := (by omega)); (try have hxl1 : w.heap.size + 1 < w1.heap.size := (by omega)); (try have hxl2 : w.heap.size + 2 < w1.heap.size := (by omega)))))
        all_goals first | (go_ret; go_light; exact ⟨rfl, by (repeat' first | exact Below.refl _ _ | (with_reducible assumption) | (with_reducible refine bAlloc (by first | omega | (simp <;> omega)) ?_) | (with_reducible refine bSet (by first | omega | (simp <;> omega)) ?_) | (with_reducible refine bDrew ?_) | (with_reducible refine bDrewN ?_) | (with_reducible refine bTrans (by with_reducible assumption) (by first | omega | (simp <;> omega)) ?_))⟩) | (exfalso; omega) | (exfalso; simp_all; done)
      | true =>
        obtain ⟨O, N, hz, hN0, hW, hO, hX, hN⟩ := h7 rfl
        rw [hz] at k5
        have hzI : (s.size : Int) = 12 := by omega
        go_enter Tryd.func7, Tryd.ntmps7
        go_wp2_with (first | (go_at_call 11; refine (hA _ hT).mono ?_; rintro e w1 ⟨rfl, hxb⟩; (obtain ⟨hxc, hxf⟩ := bcell hxb; have hxz := hxb.size; (try simp [Nat.succ_le_iff] at hxz); (try have hxy := Nat.lt_of_succ_lt hxz); (try have hxy2 := Nat.lt_of_succ_lt hxy); (try have hxy3 := Nat.lt_of_succ_lt hxy2); (try have hxy4 := Nat.lt_of_succ_lt hxy3); have hxB : Below w.heap.size w w1 := (by (repeat' first | exact Below.refl _ _ | (with_reducible assumption) | (with_reducible refine bAlloc (by first | omega | (simp <;> omega)) ?_) | (with_reducible refine bSet (by first | omega | (simp <;> omega)) ?_) | (with_reducible refine bDrew ?_) | (with_reducible refine bDrewN ?_) | (with_reducible refine bTrans (by with_reducible assumption) (by first | omega | (simp <;> omega)) ?_))); have hxk := below_all hxB; (try have hxl0 : w.heap.size < w1.heap.size := (by omega)); (try have hxl1 : w.heap.size + 1 < w1.heap.size := (by omega)); (try have hxl2 : w.heap.size + 2 < w1.heap.size := (by omega)))) | (go_at_call 18; (first | (with_reducible refine (h1 _).mono ?_; rintro e w' ⟨rfl, rfl⟩) | (with_reducible refine (h2 _).mono ?_; rintro e w' ⟨rfl, rfl⟩) | (with_reducible refine (k4 _).mono ?_; rintro e w' ⟨rfl, rfl⟩) | (with_reducible refine (k5 _).mono ?_; rintro e w' ⟨rfl, rfl⟩) | (with_reducible refine (hO _).mono ?_; rintro e w' ⟨rfl, rfl⟩) | (with_reducible refine (hX _).mono ?_; rintro e w' ⟨rfl, rfl⟩) | (refine (h3 _).mono ?_; rintro e w' ⟨rfl, rfl⟩))) | (go_at_call 15; refine (h6 _).mono ?_; rintro e w1 ⟨rfl, hxb⟩; (obtain ⟨hxc, hxf⟩ := bcell hxb; have hxz := hxb.size; (try simp [Nat.succ_le_iff] at hxz); (try have hxy := Nat.lt_of_succ_lt hxz); (try have hxy2 := Nat.lt_of_succ_lt hxy); (try have hxy3 := Nat.lt_of_succ_lt hxy2); (try have hxy4 := Nat.lt_of_succ_lt hxy3); have hxB : Below w.heap.size w w1 := (by (repeat' first | exact Below.refl _ _ | (with_reducible assumption) | (with_reducible refine bAlloc (by first | omega | (simp <;> omega)) ?_) | (with_reducible refine bSet (by first | omega | (simp <;> omega)) ?_) | (with_reducible refine bDrew ?_) | (with_reducible refine bDrewN ?_) | (with_reducible refine bTrans (by with_reducible assumption) (by first | omega | (simp <;> omega)) ?_))); have hxk := below_all hxB; (try have hxl0 : w.heap.size < w1.heap.size := (by omega)); (try have hxl1 : w.heap.size + 1 < w1.heap.size := (by omega)); (try have hxl2 : w.heap.size + 2 < w1.heap.size := (by omega)))) | (go_at_call 21; refine (hW _).mono ?_; rintro e w1 ⟨rfl, hxb⟩; (obtain ⟨hxc, hxf⟩ := bcell hxb; have hxz := hxb.size; (try simp [Nat.succ_le_iff] at hxz); (try have hxy := Nat.lt_of_succ_lt hxz); (try have hxy2 := Nat.lt_of_succ_lt hxy); (try have hxy3 := Nat.lt_of_succ_lt hxy2); (try have hxy4 := Nat.lt_of_succ_lt hxy3); have hxB : Below w.heap.size w w1 := (by (repeat' first | exact Below.refl _ _ | (with_reducible assumption) | (with_reducible refine bAlloc (by first | omega | (simp <;> omega)) ?_) | (with_reducible refine bSet (by first | omega | (simp <;> omega)) ?_) | (with_reducible refine bDrew ?_) | (with_reducible refine bDrewN ?_) | (with_reducible refine bTrans (by with_reducible assumption) (by first | omega | (simp <;> omega)) ?_))); have hxk := below_all hxB; (try have hxl0 : w.heap.size < w1.heap.size := (by omega)); (try have hxl1 : w.heap.size + 1 < w1.heap.size := (by omega)); (try have hxl2 : w.heap.size + 2 < w1.heap.size := (by omega)))) | (go_at_call 22; refine (hN _).mono ?_; rintro e w1 ⟨rfl, hxb⟩; (obtain ⟨hxc, hxf⟩ := bcell hxb; have hxz := hxb.size; (try simp [Nat.succ_le_iff] at hxz); (try have hxy := Nat.lt_of_succ_lt hxz); (try have hxy2 := Nat.lt_of_succ_lt hxy); (try have hxy3 := Nat.lt_of_succ_lt hxy2); (try have hxy4 := Nat.lt_of_succ_lt hxy3); have hxB : Below w.heap.size w w1 := (by (repeat' first | exact Below.refl _ _ | (with_reducible assumption) | (with_reducible refine bAlloc (by first | omega | (simp <;> omega)) ?_) | (with_reducible refine bSet (by first | omega | (simp <;> omega)) ?_) | (with_reducible refine bDrew ?_) | (with_reducible refine bDrewN ?_) | (with_reducible refine bTrans (by with_reducible assumption) (by first | omega | (simp <;> omega)) ?_))); have hxk := below_all hxB; (try have hxl0 : w.heap.size < w1.heap.size := (by omega)); (try have hxl1 : w.heap.size + 1 < w1.heap.size := (by omega)); (try have hxl2 : w.heap.size + 2 < w1.heap.size := (by omega)))))
        all_goals first | (go_ret; go_light; exact ⟨rfl, by (repeat' first | exact Below.refl _ _ | (with_reducible assumption) | (with_reducible refine bAlloc (by first | omega | (simp <;> omega)) ?_) | (with_reducible refine bSet (by first | omega | (simp <;> omega)) ?_) | (with_reducible refine bDrew ?_) | (with_reducible refine bDrewN ?_) | (with_reducible refine bTrans (by with_reducible assumption) (by first | omega | (simp <;> omega)) ?_))⟩) | (exfalso; omega) | (exfalso; simp_all; done)

theorem joinsW (s t : ByteArray) (c : Int) (w : World) (hs : s.size ≤ maxLen) (hs' : t.size ≤ maxLen) (hT : Tb w) :
    Calls Tryd.prog 7 #[.string s, .string t, .int .i64 c] w fun e w' => e = .returned (.bool true) ∧ Below w.heap.size w w' := by
  have hA := fun w h => awakeW w h
  by_cases hin : (s.size : Int) ≤ 40 ∧ (t.size : Int) ≤ 40 ∧ 0 ≤ c ∧ c ≤ s.size
  · obtain ⟨g1, g2, g3, g4⟩ := hin
    obtain ⟨c, rfl⟩ := Int.eq_ofNat_of_zero_le g3
    have hc : c ≤ s.size := by omega
    have hm : (40 : Nat) + 40 ≤ maxLen := by unfold maxLen; omega
    have hsz : (s ++ t).size ≤ maxLen := by rw [ByteArray.size_append]; omega
    refine joinsCore s t c w hs g1 g2 hc g4 (nameI s) (nameI t) (nameI (s ++ t)) (rightB s) hA hT (fun w => nameW s w hs) (fun w => nameW t w hs') (fun w => nameW (s ++ t) w hsz) (fun h w => ?_) (fun h w => ?_) (fun w => qB' (rightW s w hs)) (fun h => ?_) (fun h1 h2 => name_join h1 h2) (fun h => ?_) (fun h => ?_)
    · have := nameW (s.extract 0 c) w (by rw [size_extract _ _ _ hc]; omega)
      rw [name_part h 0 c hc (by omega)] at this
      simpa using this
    · have := nameW (s.extract c s.size) w (by rw [size_extract _ _ _ (Nat.le_refl _)]; omega)
      rw [name_part h c s.size (Nat.le_refl _) hc] at this
      simpa using this
    · have hz := right_size h
      have hn := right_name h
      refine ⟨s.extract 0 4, numberZ s, hz, right_num h, fun w => ?_, fun w => ?_, fun w => ?_, fun w => qB' (numberZW s w hs)⟩
      · have := qB' (ownerW s w hs)
        unfold ownerB at this
        rw [if_pos h] at this
        exact this
      · have := nameW (s.extract 0 4) w (by rw [size_extract _ _ _ (by omega)]; omega)
        rw [name_part hn 0 4 (by omega) (by omega)] at this
        simpa using this
      · have := nameW (s.extract 4 10) w (by rw [size_extract _ _ _ (by omega)]; omega)
        rw [name_part hn 4 10 (by omega) (by omega)] at this
        simpa using this
    · have := ((nameI_iff _).1 h).2.2
      rw [ByteArray.size_append] at this
      omega
    · cases hr : rightB s with
      | false => rfl
      | true => rw [right_name hr] at h; cases h
  · have hN := Lib.hid hin
    clear hin
    go_enter Tryd.func7, Tryd.ntmps7
    go_wp2_with (first | (go_at_call 11; refine (hA _ hT).mono ?_; rintro e w1 ⟨rfl, hxb⟩; (obtain ⟨hxc, hxf⟩ := bcell hxb; have hxz := hxb.size; (try simp [Nat.succ_le_iff] at hxz); (try have hxy := Nat.lt_of_succ_lt hxz); (try have hxy2 := Nat.lt_of_succ_lt hxy); (try have hxy3 := Nat.lt_of_succ_lt hxy2); (try have hxy4 := Nat.lt_of_succ_lt hxy3); have hxB : Below w.heap.size w w1 := (by (repeat' first | exact Below.refl _ _ | (with_reducible assumption) | (with_reducible refine bAlloc (by first | omega | (simp <;> omega)) ?_) | (with_reducible refine bSet (by first | omega | (simp <;> omega)) ?_) | (with_reducible refine bDrew ?_) | (with_reducible refine bDrewN ?_) | (with_reducible refine bTrans (by with_reducible assumption) (by first | omega | (simp <;> omega)) ?_))); have hxk := below_all hxB; (try have hxl0 : w.heap.size < w1.heap.size := (by omega)); (try have hxl1 : w.heap.size + 1 < w1.heap.size := (by omega)); (try have hxl2 : w.heap.size + 2 < w1.heap.size := (by omega)))) | (exfalso; have := hN.out; omega))
    all_goals first
      | (go_ret; go_light; exact ⟨rfl, by (repeat' first | exact Below.refl _ _ | (with_reducible assumption) | (with_reducible refine bAlloc (by first | omega | (simp <;> omega)) ?_) | (with_reducible refine bSet (by first | omega | (simp <;> omega)) ?_) | (with_reducible refine bDrew ?_) | (with_reducible refine bDrewN ?_) | (with_reducible refine bTrans (by with_reducible assumption) (by first | omega | (simp <;> omega)) ?_))⟩)
      | (exfalso; have := hN.out; omega)
open Go.ChangeShapes Go.WideShapes Go.ChangeAt Go.Deep in
open Go.ChangeMaps (open_string) in
set_option maxRecDepth 100000 in
theorem markJoins_lifted (os : Os) (started : os.Started) (H : Type) (enc : TypeId × Value → H) :
    ReturnsInHanded {} Tryd.checked os 7 .any (fun w args => (Rows.markJoinsSpec.pre enc Tryd.prog Tryd.f7 [] false w args ∧ laidMetH Tryd.prog Rows.markJoinsRow.laid w) ∧ sizedMet enc Tryd.prog Tryd.f7 (OpenSpec.ofChange Rows.markJoinsSpec) false w args)
      (Rows.markJoinsSpec.post enc Tryd.prog Tryd.f7 false true false false) := by
  refine returnsInHanded_of_change_and (C := Tryd.checked) (X := fun w _ => laidMetH Tryd.prog Rows.markJoinsRow.laid w) (fun _ _ _ hh h => h.of_heap hh) own_ started (by kernel_rfl) Tryd.func7
    (ChangeSpec.witness_shaped (enc := enc) (C := Tryd.checked) (os := os) (X := fun w _ => laidMetH Tryd.prog Rows.markJoinsRow.laid w) false (World.doorLaid Tryd.prog doorN os) #[.string ⟨#[]⟩, .string ⟨#[]⟩, .int .i64 0] 8 rfl (World.shaped_of_RefB (by kernel_rfl) (by kernel_rfl)) (by kernel_rfl) (by kernel_rfl) (by kernel_rfl) (door_met os _)) ?_
  intro W base args ds gs before hval0 hW _ _ hL _
  have hval : ∀ (j : Nat) t v, Tryd.f7.params[j]? = some t → args[j]? = some v → Value.okWide Tryd.prog W .any base t v := hval0
  have hW' := hW
  have hT := tb_of hL
  obtain ⟨p, q, hA0, hV, rfl, hfz, hnd⟩ := hW
  have hA : DataW.TrodAll enc Tryd.prog W 0 (fun _ => true) true Tryd.f7.params.toList args.toList ds p := hA0
  rw [Tryd.params7] at hA hval
  obtain ⟨v0, v1, v2, d0, d1, d2, p0, p1, p2, rfl, rfl, rfl, h0, h1, h2⟩ := trodAll_three hA
  obtain ⟨rfl, rfl⟩ := trodVars_none hV
  (obtain ⟨s, rfl, -, -, hs⟩ := open_string Tryd.underlying9 (hval 0 9 v0 rfl rfl) h0; obtain ⟨t, rfl, -, -, hs'⟩ := open_string Tryd.underlying9 (hval 1 9 v1 rfl rfl) h1; obtain ⟨c, rfl, -, -, -⟩ := open_int Tryd.underlying3 (hval 2 3 v2 rfl rfl) h2)
  refine (joinsW s t c W hs hs' hT).mono fun e W' ⟨he, hb⟩ => ?_
  subst he
  exact ⟨_, rfl, law_post laidOut_ (by kernel_rfl) rfl Tryd.underlying4 rfl rfl hW' hb⟩

open Go.WideShapes Go.ChangeAt in
theorem markJoins_said : Rows.MarkJoinsSaid :=
  OpenClaim.holds_of_wide 7 Tryd.f7 rfl rfl rfl rfl rfl rfl rfl ⟨rfl, rfl, rfl, rfl, rfl⟩ rfl rfl rfl rfl rfl (by kernel_rfl) Tryd.func7 (by kernel_rfl)
    (of_decide_eq_true (by kernel_rfl)) (by unfold Func.isWrapper; first | (rw [if_pos (by decide +kernel)]; kernel_rfl) | (rw [if_neg (by decide +kernel)]; exact ⟨rfl, rfl⟩))
    (fun os started H enc _ => markJoins_lifted os started H enc)
theorem markJoins_card : Rows.MarkJoinsCardSaid :=
  Claim7.holds_tied_plain_at .later [] _ _ _ _ markJoins_said (fun _ h => by cases h) (by kernel_rfl) (fun _ h => by cases h) markJoins_row_tie rfl ⟨rfl, rfl⟩ (by kernel_rfl) rfl (plain_ 7 Tryd.f7 (by kernel_rfl) Tryd.func7 (by kernel_rfl)) (by kernel_rfl)
#print axioms markJoins_card
end Go.Proofs.YtjohlbpahaklkaaDoor
