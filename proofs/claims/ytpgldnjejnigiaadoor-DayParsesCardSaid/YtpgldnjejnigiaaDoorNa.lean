/-
  Days: form, Parse, walked; the reference's.
-/
import Derived.Test.YtpgldnjejnigiaaDoorNn
import Derived.Test.YtpgldnjejnigiaaDoorT
import Derived.Lib.AtoiErrMem
import Derived.IntWalk
namespace Go.Proofs.YtpgldnjejnigiaaDoor
open Go.RowKit

def pos45 (k : Nat) : Bool := decide (k = 4 ∨ k = 7)
set_option maxHeartbeats 1000000 in
set_option maxRecDepth 100000 in
theorem formW (s : ByteArray) (w : World) (hs : s.size ≤ maxLen) :
    Calls Tryd.prog 48 #[.string s] w fun e w' => e = .returned (.bool (formB s)) ∧ w = w' := by
  unfold maxLen at hs
  by_cases hz : s.size = 10
  · have hzI : (s.size : Int) = 10 := by omega
    have he := Lib.hid (show formB s = formF s 0 by unfold formB; rw [decide_eq_true hz, Bool.true_and])
    have HZ := Lib.hid hz
    clear hz
    go_enter Tryd.func48, Tryd.ntmps48
    go_wp2
    go_loop [3, 4, 10] (fun _ _ i => ∃ k : Nat, k ≤ 10 ∧ i = .int .i64 k ∧ Hid (formF s k = formF s 0)) (fun _ _ i => 10 - (intOf i).toNat)
    case atStart => exact ⟨0, by omega, rfl, Lib.hid rfl⟩
    case round =>
      obtain ⟨k, hk, rfl, hq⟩ := hrel
      by_cases hlt : k < 10
      · have hst := Lib.hid (formF_step s k hlt)
        have hks : k < s.size := by have := HZ.out; omega
        have hb := Lib.hid (byt_get s k hks)
        have hu := s[k].toNat_lt
        by_cases h4 : k = 4
        · have hp := Lib.hid (show posOk k (byt s k) = ((s[k].toNat : Int) == 45) by unfold posOk; rw [if_pos (by omega), hb.out])
          have g4 : ((k : Int) == 4) = true := by simp; omega
          clear h4
          go_wp2
          all_goals first
            | (go_round
               case rel => go_light; exact ⟨k + 1, by omega, by go_num, Lib.hid (by have a := hst.out; have b := hp.out; have c := hq.out; simp_all; try omega)⟩
               case measure => simp [intOf]; omega)
            | (go_ret; go_light; refine ⟨ret_bool ?_, rfl⟩; have a := hst.out; have b := hp.out; have c := hq.out; have d := he.out; simp_all; try omega)
        · by_cases h7 : k = 7
          · have hp := Lib.hid (show posOk k (byt s k) = ((s[k].toNat : Int) == 45) by unfold posOk; rw [if_pos (by omega), hb.out])
            have g4 : ((k : Int) == 4) = false := by simp; omega
            have g7 : ((k : Int) == 7) = true := by simp; omega
            clear h4 h7
            go_wp2
            all_goals first
              | (go_round
                 case rel => go_light; exact ⟨k + 1, by omega, by go_num, Lib.hid (by have a := hst.out; have b := hp.out; have c := hq.out; simp_all; try omega)⟩
                 case measure => simp [intOf]; omega)
              | (go_ret; go_light; refine ⟨ret_bool ?_, rfl⟩; have a := hst.out; have b := hp.out; have c := hq.out; have d := he.out; simp_all; try omega)
          · have hp := Lib.hid (show posOk k (byt s k) = (decide (48 ≤ (s[k].toNat : Int)) && decide ((s[k].toNat : Int) ≤ 57)) by unfold posOk; rw [if_neg (by omega), hb.out]; rfl)
            have g4 : ((k : Int) == 4) = false := by simp; omega
            have g7 : ((k : Int) == 7) = false := by simp; omega
            clear h4 h7
            go_wp2
            all_goals first
              | (go_round
                 case rel => go_light; exact ⟨k + 1, by omega, by go_num, Lib.hid (by have a := hst.out; have b := hp.out; have c := hq.out; simp_all; try omega)⟩
                 case measure => simp [intOf]; omega)
              | (go_ret; go_light; refine ⟨ret_bool ?_, rfl⟩; have a := hst.out; have b := hp.out; have c := hq.out; have d := he.out; simp_all; try omega)
      · obtain rfl : k = 10 := by omega
        have hst := Lib.hid (formF_end s)
        go_wp2
        all_goals (go_ret; go_light; refine ⟨ret_bool ?_, rfl⟩; have a := hst.out; have c := hq.out; have d := he.out; simp_all; try omega)
  · have he := Lib.hid (show formB s = false by unfold formB; rw [decide_eq_false hz]; rfl)
    have hzI : ((s.size : Int) != 10) = true := by simp; omega
    clear hz
    go_enter Tryd.func48, Tryd.ntmps48
    go_wp2
    all_goals (go_ret; rw [he.out]; exact ⟨rfl, rfl⟩)
theorem atoiW (s : ByteArray) (w : World) (h : rng digI s 0 s.size = true) (h0 : 0 < s.size) (h6 : s.size ≤ 6) :
    Calls Tryd.prog 50 #[.string s] w fun e w' => e = .returned (.tuple #[.int .i64 (num s 0 s.size), .nilIface]) ∧ Below w.heap.size w w' :=
  (Tryd.strconv_Atoi s (num s 0 s.size) (by omega) (atoi_num s h h0) w).mono fun e w' ⟨he, t, hw⟩ => ⟨he, hw ▸ Lib.bytesWorld_below _ _ _⟩
theorem numW (s : ByteArray) (w : World) (h : rng digI s 0 s.size = true) (h0 : 0 < s.size) (h6 : s.size ≤ 6) :
    Calls Tryd.prog 49 #[.string s] w fun e w' => e = .returned (.int .i64 (num s 0 s.size)) ∧ Below w.heap.size w w' := by
  have hA := fun w => atoiW s w h h0 h6
  generalize num s 0 s.size = N at *
  clear h
  go_enter Tryd.func49, Tryd.ntmps49
  go_wp2_with (go_at_call 50; refine (hA _).mono ?_; rintro e w1 ⟨rfl, hxb⟩; (obtain ⟨hxc, hxf⟩ := bcell hxb; have hxz := hxb.size; (try simp [Nat.succ_le_iff] at hxz); (try have hxy := Nat.lt_of_succ_lt hxz); (try have hxy2 := Nat.lt_of_succ_lt hxy); (try have hxy3 := Nat.lt_of_succ_lt hxy2); (try have hxy4 := Nat.lt_of_succ_lt hxy3); have hxB : Below w.heap.size w w1 := (by (repeat' first | exact Below.refl _ _ | (with_reducible assumption) | (with_reducible refine bAlloc (by first | omega | (simp <;> omega)) ?_) | (with_reducible refine bSet (by first | omega | (simp <;> omega)) ?_) | (with_reducible refine bDrew ?_) | (with_reducible refine bDrewN ?_) | (with_reducible refine bTrans (by with_reducible assumption) (by first | omega | (simp <;> omega)) ?_))); have hxk := below_all hxB; (try have hxl0 : w.heap.size < w1.heap.size := (by omega)); (try have hxl1 : w.heap.size + 1 < w1.heap.size := (by omega)); (try have hxl2 : w.heap.size + 2 < w1.heap.size := (by omega))))
  go_ret
  exact ⟨rfl, by (repeat' first | exact Below.refl _ _ | (with_reducible assumption) | (with_reducible refine bAlloc (by first | omega | (simp <;> omega)) ?_) | (with_reducible refine bSet (by first | omega | (simp <;> omega)) ?_) | (with_reducible refine bDrew ?_) | (with_reducible refine bDrewN ?_) | (with_reducible refine bTrans (by with_reducible assumption) (by first | omega | (simp <;> omega)) ?_))⟩
theorem numX (s : ByteArray) (a b n : Nat) (hb : b ≤ s.size) (hn : b - a = n) (h0 : 0 < n) (h6 : n ≤ 6) (h : rng digI s a n = true) (w : World) :
    Calls Tryd.prog 49 #[.string (s.extract a b)] w fun e w' => e = .returned (.int .i64 (num s a n)) ∧ Below w.heap.size w w' := by
  have hz := size_extract s a b hb
  rw [← num_extract s a b hb n (by omega)]
  have := numW (s.extract a b) w (by rw [rng_extract digI s a b hb, hn]; exact h) (by omega) (by omega)
  rw [hz, hn] at this
  exact this
theorem par_no {s : ByteArray} (h : formB s = false) : parD s = none ∧ parE s = 2 := by
  unfold parD parE
  rw [h]
  exact ⟨rfl, rfl⟩
theorem par_of {s : ByteArray} (h : formB s = true) {z : Int × Bool} (hz : ofZ (num s 0 4) (num s 5 2 - 1) (num s 8 2) = z) : (z.2 = true ∧ parD s = some z.1 ∧ parE s = 0) ∨ (z.2 = false ∧ parD s = none ∧ parE s = 3) := by
  unfold parD parE
  rw [h]
  simp only [if_true]
  rcases ofZ_opt (num s 0 4) (num s 5 2 - 1) (num s 8 2) with ⟨e1, e2⟩ | ⟨e1, e2⟩
  · rw [hz] at e1
    obtain ⟨t, ht⟩ := Option.isSome_iff_exists.1 e2
    rw [ht] at e1 ⊢
    rw [e1]
    exact .inl ⟨rfl, rfl, rfl⟩
  · rw [hz] at e1
    rw [e2]
    exact .inr ⟨e1, rfl, rfl⟩
set_option maxHeartbeats 1000000 in
set_option maxRecDepth 100000 in
theorem parseW (s : ByteArray) (w : World) (hs : s.size ≤ maxLen) (hT : Mt w) :
    Calls Tryd.prog 30 #[.string s] w fun e w' => e = .returned (.tuple #[.int .i64 ((parD s).getD 0), .int .i64 (parE s)]) ∧ Below w.heap.size w w' := by
  have hF := fun w => formW s w hs
  cases hf : formB s with
  | false =>
    obtain ⟨e1, e2⟩ := par_no hf
    rw [hf] at hF
    have E1 := Lib.hid e1
    have E2 := Lib.hid e2
    clear hf e1 e2
    go_enter Tryd.func30, Tryd.ntmps30
    go_wp2_with (go_at_call 48; refine (hF _).mono ?_; rintro e w' ⟨rfl, rfl⟩)
    go_ret2
    rw [E1.out, E2.out]
    exact ⟨rfl, by (repeat' first | exact Below.refl _ _ | (with_reducible assumption) | (with_reducible refine bAlloc (by first | omega | (simp <;> omega)) ?_) | (with_reducible refine bSet (by first | omega | (simp <;> omega)) ?_) | (with_reducible refine bDrew ?_) | (with_reducible refine bDrewN ?_) | (with_reducible refine bTrans (by with_reducible assumption) (by first | omega | (simp <;> omega)) ?_))⟩
  | true =>
    rw [hf] at hF
    obtain ⟨hz, h4, h7, r0, r5, r8⟩ := (form_iff s).1 hf
    have n0 := num_range s 0 4 r0
    have n5 := num_range s 5 2 r5
    have n8 := num_range s 8 2 r8
    have h1 := fun w => numX s 0 4 4 (by omega) rfl (by omega) (by omega) r0 w
    have h2 := fun w => numX s 5 7 2 (by omega) rfl (by omega) (by omega) r5 w
    have h3 := fun w => numX s 8 s.size 2 (by omega) (by omega) (by omega) (by omega) r8 w
    have hO := fun w h => ofW (num s 0 4) (num s 5 2 - 1) (num s 8 2) w n0.1 (by omega) (by omega) (by omega) n8.1 (by omega) h
    have hP := par_of hf rfl
    have n0a : num s 0 4 ≤ 9999 := by omega
    have n5a : num s 5 2 ≤ 99 := by omega
    have n8a : num s 8 2 ≤ 99 := by omega
    have n0b := n0.1
    have n5b := n5.1
    have n8b := n8.1
    clear n0 n5 n8
    have hzI : (s.size : Int) = 10 := by omega
    have hz8 : 8 ≤ s.size := by omega
    have hz7 : 7 ≤ s.size := by omega
    have hz4 : 4 ≤ s.size := by omega
    clear hf h4 h7 r0 r5 r8 hz
    generalize ofZ (num s 0 4) (num s 5 2 - 1) (num s 8 2) = Z at *
    generalize num s 0 4 = Y at *
    generalize num s 5 2 = M at *
    generalize num s 8 2 = O at *
    obtain ⟨z1, z2⟩ := Z
    have hwr : IntKind.i64.wrap (M - 1) = M - 1 := IntWalk.i64_in _ (by omega)
    rcases hP with ⟨rfl, e1, e2⟩ | ⟨rfl, e1, e2⟩
    all_goals
      have E1 := Lib.hid e1
      have E2 := Lib.hid e2
      clear e1 e2
      go_enter Tryd.func30, Tryd.ntmps30
      go_wp2_with (go_at_call 48; refine (hF _).mono ?_; rintro e w' ⟨rfl, rfl⟩)
      go_region_held3 (fun _ => True)
        (first | trivial)
        (first | (go_at_call 49; (with_reducible refine (h1 _).mono ?_); rintro e w1 ⟨rfl, hxb⟩; (obtain ⟨hxc, hxf⟩ := bcell hxb; have hxz := hxb.size; (try simp [Nat.succ_le_iff] at hxz); (try have hxy := Nat.lt_of_succ_lt hxz); (try have hxy2 := Nat.lt_of_succ_lt hxy); (try have hxy3 := Nat.lt_of_succ_lt hxy2); (try have hxy4 := Nat.lt_of_succ_lt hxy3); have hxB : Below w.heap.size w w1 := (by (repeat' first | exact Below.refl _ _ | (with_reducible assumption) | (with_reducible refine bAlloc (by first | omega | (simp <;> omega)) ?_) | (with_reducible refine bSet (by first | omega | (simp <;> omega)) ?_) | (with_reducible refine bDrew ?_) | (with_reducible refine bDrewN ?_) | (with_reducible refine bTrans (by with_reducible assumption) (by first | omega | (simp <;> omega)) ?_))); have hxk := below_all hxB; (try have hxl0 : w.heap.size < w1.heap.size := (by omega)); (try have hxl1 : w.heap.size + 1 < w1.heap.size := (by omega)); (try have hxl2 : w.heap.size + 2 < w1.heap.size := (by omega)))) | (go_at_call 49; (with_reducible refine (h2 _).mono ?_); rintro e w1 ⟨rfl, hxb⟩; (obtain ⟨hxc, hxf⟩ := bcell hxb; have hxz := hxb.size; (try simp [Nat.succ_le_iff] at hxz); (try have hxy := Nat.lt_of_succ_lt hxz); (try have hxy2 := Nat.lt_of_succ_lt hxy); (try have hxy3 := Nat.lt_of_succ_lt hxy2); (try have hxy4 := Nat.lt_of_succ_lt hxy3); have hxB : Below w.heap.size w w1 := (by (repeat' first | exact Below.refl _ _ | (with_reducible assumption) | (with_reducible refine bAlloc (by first | omega | (simp <;> omega)) ?_) | (with_reducible refine bSet (by first | omega | (simp <;> omega)) ?_) | (with_reducible refine bDrew ?_) | (with_reducible refine bDrewN ?_) | (with_reducible refine bTrans (by with_reducible assumption) (by first | omega | (simp <;> omega)) ?_))); have hxk := below_all hxB; (try have hxl0 : w.heap.size < w1.heap.size := (by omega)); (try have hxl1 : w.heap.size + 1 < w1.heap.size := (by omega)); (try have hxl2 : w.heap.size + 2 < w1.heap.size := (by omega)))) | (go_at_call 49; (with_reducible refine (h3 _).mono ?_); rintro e w1 ⟨rfl, hxb⟩; (obtain ⟨hxc, hxf⟩ := bcell hxb; have hxz := hxb.size; (try simp [Nat.succ_le_iff] at hxz); (try have hxy := Nat.lt_of_succ_lt hxz); (try have hxy2 := Nat.lt_of_succ_lt hxy); (try have hxy3 := Nat.lt_of_succ_lt hxy2); (try have hxy4 := Nat.lt_of_succ_lt hxy3); have hxB : Below w.heap.size w w1 := (by (repeat' first | exact Below.refl _ _ | (with_reducible assumption) | (with_reducible refine bAlloc (by first | omega | (simp <;> omega)) ?_) | (with_reducible refine bSet (by first | omega | (simp <;> omega)) ?_) | (with_reducible refine bDrew ?_) | (with_reducible refine bDrewN ?_) | (with_reducible refine bTrans (by with_reducible assumption) (by first | omega | (simp <;> omega)) ?_))); have hxk := below_all hxB; (try have hxl0 : w.heap.size < w1.heap.size := (by omega)); (try have hxl1 : w.heap.size + 1 < w1.heap.size := (by omega)); (try have hxl2 : w.heap.size + 2 < w1.heap.size := (by omega)))) | (go_at_call 36; (with_reducible refine (hO _ (hT.next (by (repeat' first | exact Below.refl _ _ | (with_reducible assumption) | (with_reducible refine bAlloc (by first | omega | (simp <;> omega)) ?_) | (with_reducible refine bSet (by first | omega | (simp <;> omega)) ?_) | (with_reducible refine bDrew ?_) | (with_reducible refine bDrewN ?_) | (with_reducible refine bTrans (by with_reducible assumption) (by first | omega | (simp <;> omega)) ?_))))).mono ?_); rintro e w' ⟨rfl, rfl⟩))
      all_goals go_wp2_with fail
      all_goals (go_ret2; rw [E1.out, E2.out]; exact ⟨rfl, by (repeat' first | exact Below.refl _ _ | (with_reducible assumption) | (with_reducible refine bAlloc (by first | omega | (simp <;> omega)) ?_) | (with_reducible refine bSet (by first | omega | (simp <;> omega)) ?_) | (with_reducible refine bDrew ?_) | (with_reducible refine bDrewN ?_) | (with_reducible refine bTrans (by with_reducible assumption) (by first | omega | (simp <;> omega)) ?_))⟩)
end Go.Proofs.YtpgldnjejnigiaaDoor
