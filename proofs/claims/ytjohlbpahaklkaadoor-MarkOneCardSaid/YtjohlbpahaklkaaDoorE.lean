/-
  Marks: padded, Make, Name, awake.
-/
import Derived.Test.YtjohlbpahaklkaaDoorD
import Derived.Test.YtjohlbpahaklkaaDoorShelf
import Derived.Lib.AppendIntMem
import Derived.Lib.SmallJoins
namespace Go.Proofs.YtjohlbpahaklkaaDoor
set_option linter.unusedVariables false
set_option linter.unusedSimpArgs false
open Go.RowKit

/-- the library's table reads as it is laid -/
def Tb (w : World) : Prop := Lib.TabIs Tryd.prog w "internal/strconv.uint64pow10" .u64 Lib.pow10Tab
theorem Tb.next {w w' : World} (h : Tb w) (hb : Below w.heap.size w w') : Tb w' := Lib.tabBelow_of_tabIs h w' hb
theorem Tb.drewN {w : World} (h : Tb w) (m : Nat) : Tb (w.drewN m) := h.next (bDrewN (Below.refl _ _))

theorem itoaW (n : Nat) (hn : n < 9223372036854775808) (w : World) (hT : Tb w) :
    Calls Tryd.prog 40 #[.int .i64 n] w fun e w' => e = .returned (.string ⟨(Lib.decDigits n).toArray⟩) ∧ Below w.heap.size w w' := by
  refine (Tryd.strconv_Itoa n (by omega) (by omega) w hT).mono fun e w' ⟨he, k, os, hw⟩ => ⟨?_, hw ▸ Lib.below_grow _ w (Nat.le_refl _) k os⟩
  rw [he]
  unfold Lib.itoa
  rw [if_neg (by omega)]
  rfl
def zeros (c : Nat) : ByteArray := ⟨(Lib.repeatL [48] c).toArray⟩
theorem zeros_size (c : Nat) : (zeros c).size = c := by unfold zeros; simp [ByteArray.size, Lib.repeatL_length]
theorem repW (c : Nat) (h1 : c ≤ 200) (w : World) :
    Calls Tryd.prog 41 #[.string ⟨#[48]⟩, .int .i64 c] w fun e w' => e = .returned (.string (zeros c)) ∧ Below w.heap.size w w' :=
  Tryd.strings_Repeat ⟨#[48]⟩ c w (by omega) (by show 1 * c ≤ _; omega)
theorem bytes_append (x y : List UInt8) : (⟨x.toArray⟩ : ByteArray) ++ (⟨y.toArray⟩ : ByteArray) = ⟨(x ++ y).toArray⟩ := by
  apply ByteArray.ext
  rw [ByteArray.data_append]
  simp
theorem padW (n wd : Nat) (h0 : 0 < wd) (h6 : wd ≤ 6) (hn : n < 10 ^ wd) (w : World) (hT : Tb w) :
    Calls Tryd.prog 28 #[.int .i64 n, .int .i64 wd] w fun e w' => e = .returned (.string (padB wd n)) ∧ Below w.heap.size w w' := by
  obtain ⟨he, hl⟩ := pad_eq wd n h0 hn
  have hn6 : n < 9223372036854775808 := by
    have : 10 ^ wd ≤ 10 ^ 6 := Nat.pow_le_pow_right (by omega) h6
    omega
  have hz : (⟨(Lib.decDigits n).toArray⟩ : ByteArray).size = (Lib.decDigits n).length := by simp [ByteArray.size]
  have HE := Lib.hid he
  clear he hn
  have hI := itoaW n hn6
  generalize hx : (⟨(Lib.decDigits n).toArray⟩ : ByteArray) = X at *
  have HX := Lib.hid hx
  rw [← hz] at hl
  have HZ := Lib.hid hz
  clear hx hz
  obtain ⟨c, hc⟩ : ∃ c : Nat, c = wd - X.size := ⟨_, rfl⟩
  have hcI : (wd : Int) - X.size = c := by omega
  have hcz := zeros_size c
  have hcl : c ≤ 6 := by omega
  have HC := Lib.hid hc
  clear hc
  have hR := repW c (by omega)
  generalize hY : zeros c = Y at *
  have HY := Lib.hid hY
  clear hY
  go_enter Tryd.func28, Tryd.ntmps28
  go_wp2_with (first | (go_at_call 40; refine (hI _ hT).mono ?_; rintro e w1 ⟨rfl, hxb⟩; (obtain ⟨hxc, hxf⟩ := bcell hxb; have hxz := hxb.size; (try simp [Nat.succ_le_iff] at hxz); (try have hxy := Nat.lt_of_succ_lt hxz); (try have hxy2 := Nat.lt_of_succ_lt hxy); (try have hxy3 := Nat.lt_of_succ_lt hxy2); (try have hxy4 := Nat.lt_of_succ_lt hxy3); have hxB : Below w.heap.size w w1 := (by (repeat' first | exact Below.refl _ _ | (with_reducible assumption) | (with_reducible refine bAlloc (by first | omega | (simp <;> omega)) ?_) | (with_reducible refine bSet (by first | omega | (simp <;> omega)) ?_) | (with_reducible refine bDrew ?_) | (with_reducible refine bDrewN ?_) | (with_reducible refine bTrans (by with_reducible assumption) (by first | omega | (simp <;> omega)) ?_))); have hxk := below_all hxB; (try have hxl0 : w.heap.size < w1.heap.size := (by omega)); (try have hxl1 : w.heap.size + 1 < w1.heap.size := (by omega)); (try have hxl2 : w.heap.size + 2 < w1.heap.size := (by omega)))) | (go_at_call 41; refine (hR _).mono ?_; rintro e w1 ⟨rfl, hxb⟩; (obtain ⟨hxc, hxf⟩ := bcell hxb; have hxz := hxb.size; (try simp [Nat.succ_le_iff] at hxz); (try have hxy := Nat.lt_of_succ_lt hxz); (try have hxy2 := Nat.lt_of_succ_lt hxy); (try have hxy3 := Nat.lt_of_succ_lt hxy2); (try have hxy4 := Nat.lt_of_succ_lt hxy3); have hxB : Below w.heap.size w w1 := (by (repeat' first | exact Below.refl _ _ | (with_reducible assumption) | (with_reducible refine bAlloc (by first | omega | (simp <;> omega)) ?_) | (with_reducible refine bSet (by first | omega | (simp <;> omega)) ?_) | (with_reducible refine bDrew ?_) | (with_reducible refine bDrewN ?_) | (with_reducible refine bTrans (by with_reducible assumption) (by first | omega | (simp <;> omega)) ?_))); have hxk := below_all hxB; (try have hxl0 : w.heap.size < w1.heap.size := (by omega)); (try have hxl1 : w.heap.size + 1 < w1.heap.size := (by omega)); (try have hxl2 : w.heap.size + 2 < w1.heap.size := (by omega)))))
  all_goals (go_ret; go_light; refine ⟨?_, by (repeat' first | exact Below.refl _ _ | (with_reducible assumption) | (with_reducible refine bAlloc (by first | omega | (simp <;> omega)) ?_) | (with_reducible refine bSet (by first | omega | (simp <;> omega)) ?_) | (with_reducible refine bDrew ?_) | (with_reducible refine bDrewN ?_) | (with_reducible refine bTrans (by with_reducible assumption) (by first | omega | (simp <;> omega)) ?_))⟩; rw [← HY.out, ← HX.out]; unfold zeros; rw [bytes_append]; unfold padB; rw [← HE.out, HC.out, HZ.out]; rfl)
theorem sum_range {s : ByteArray} (h : headB s = true) : 0 ≤ sumZ s ∧ sumZ s < 97 := by
  unfold sumZ
  rw [if_pos h]
  omega
theorem rng_append_left (p : Int → Bool) (s t : ByteArray) (a n : Nat) (h : a + n ≤ s.size) : rng p (s ++ t) a n = rng p s a n := by
  rw [Bool.eq_iff_iff, rng_iff, rng_iff]
  constructor
  all_goals
    intro hh k h1 h2
    have := hh k h1 h2
    first
      | rwa [byt_append, if_pos (by omega)] at this
      | (rw [byt_append, if_pos (by omega)]; exact this)
theorem rng_append_right (p : Int → Bool) (s t : ByteArray) (a n : Nat) (h : s.size ≤ a) : rng p (s ++ t) a n = rng p t (a - s.size) n := by
  rw [Bool.eq_iff_iff, rng_iff, rng_iff]
  constructor
  · intro hh k h1 h2
    have := hh (k + s.size) (by omega) (by omega)
    rwa [byt_append, if_neg (by omega), show k + s.size - s.size = k by omega] at this
  · intro hh k h1 h2
    rw [byt_append, if_neg (by omega)]
    exact hh _ (by omega) (by omega)
theorem rng_pad (w n : Nat) : rng digI (padB w n) 0 w = true := by
  rw [rng_iff]
  intro k _ hk
  rw [padB_byt w n k (by omega)]
  have : n / 10 ^ (w - 1 - k) % 10 < 10 := Nat.mod_lt _ (by omega)
  unfold digI
  simp
  omega
theorem head_make (o : ByteArray) (n : Nat) (hz : o.size = 4) (hl : rng lowI o 0 4 = true) : headB (o ++ padB 6 n) = true := by
  unfold headB
  rw [rng_append_left lowI _ _ _ _ (by omega), hl, rng_append_right _ _ _ _ _ (by omega), hz, rng_pad, ByteArray.size_append, hz, padB_size]
  rfl
def mkE (o : ByteArray) (n : Int) : Int := if o.size = 4 ∧ rng lowI o 0 4 = true then (if 0 ≤ n ∧ n < 1000000 then 0 else 3) else 1
def mkS (o : ByteArray) (n : Int) : ByteArray := if mkE o n = 0 then makeB o n.toNat else ⟨#[]⟩
set_option maxHeartbeats 400000 in
set_option maxRecDepth 10000 in
theorem makeW (o : ByteArray) (n : Int) (w : World) (hs : o.size ≤ maxLen) (hT : Tb w) :
    Calls Tryd.prog 12 #[.string o, .int .i64 n] w fun e w' => e = .returned (.tuple #[.string (mkS o n), .int .i64 (mkE o n)]) ∧ Below w.heap.size w w' := by
  by_cases hz : o.size = 4
  · have hA := fun w => allLow o w hs
    rw [hz] at hA
    have hzI : (o.size : Int) = 4 := by omega
    cases hl : rng lowI o 0 4 with
    | false =>
      simp only [hl] at hA
      have he := Lib.hid (show mkE o n = 1 by unfold mkE; rw [if_neg (by simp [hl])])
      have hS := Lib.hid (show mkS o n = ⟨#[]⟩ by unfold mkS; rw [he.out]; rfl)
      clear hl
      go_enter Tryd.func12, Tryd.ntmps12
      go_wp2_with (go_at_call 26; refine (hA _).mono ?_; rintro e w' ⟨rfl, rfl⟩)
      all_goals (go_ret2; go_light; rw [he.out, hS.out]; exact ⟨rfl, by (repeat' first | exact Below.refl _ _ | (with_reducible assumption) | (with_reducible refine bAlloc (by first | omega | (simp <;> omega)) ?_) | (with_reducible refine bSet (by first | omega | (simp <;> omega)) ?_) | (with_reducible refine bDrew ?_) | (with_reducible refine bDrewN ?_) | (with_reducible refine bTrans (by with_reducible assumption) (by first | omega | (simp <;> omega)) ?_))⟩)
    | true =>
      simp only [hl] at hA
      by_cases hn : 0 ≤ n ∧ n < 1000000
      · have he := Lib.hid (show mkE o n = 0 by unfold mkE; rw [if_pos ⟨hz, hl⟩, if_pos hn])
        have hS := Lib.hid (show mkS o n = makeB o n.toNat by unfold mkS; rw [he.out]; rfl)
        obtain ⟨m, hm⟩ : ∃ m, n.toNat = m := ⟨_, rfl⟩
        obtain ⟨g1, g2⟩ := hn
        have hmI : (m : Int) = n := by omega
        have hm6 : m < 10 ^ 6 := by omega
        have hh := head_make o m hz hl
        have hr := sum_range hh
        have hM := Lib.hid (show makeB o m = (o ++ padB 6 m) ++ padB 2 (sumZ (o ++ padB 6 m)).toNat from rfl)
        have hU := fun w => sumW (o ++ padB 6 m) w (by unfold maxLen; rw [ByteArray.size_append, hz, padB_size]; omega)
        have hP6 : ∀ w, Tb w → Calls Tryd.prog 28 #[.int .i64 n, .int .i64 6] w fun e w' => e = .returned (.string (padB 6 m)) ∧ Below w.heap.size w w' := fun w h => by rw [← hmI]; exact padW m 6 (by omega) (by omega) hm6 w h
        have z6 := padB_size 6 m
        generalize padB 6 m = D6 at *
        obtain ⟨c, hc⟩ := Int.eq_ofNat_of_zero_le hr.1
        have hC := Lib.hid (show (sumZ (o ++ D6)).toNat = c by omega)
        rw [hc] at hU hr
        have hP2 : ∀ w, Tb w → Calls Tryd.prog 28 #[.int .i64 c, .int .i64 2] w fun e w' => e = .returned (.string (padB 2 c)) ∧ Below w.heap.size w w' := fun w h => padW c 2 (by omega) (by omega) (by omega) w h
        have z2 := padB_size 2 c
        generalize hD2 : padB 2 c = D2 at *
        have HD2 := Lib.hid hD2
        have HM := Lib.hid hm
        clear hD2 hc hh hl hr hm hmI hm6
        go_enter Tryd.func12, Tryd.ntmps12
        go_wp2_with (first | (go_at_call 26; refine (hA _).mono ?_; rintro e w' ⟨rfl, rfl⟩) | (go_at_call 28; with_reducible refine (hP6 _ hT).mono ?_; rintro e w1 ⟨rfl, hxb⟩; (obtain ⟨hxc, hxf⟩ := bcell hxb; have hxz := hxb.size; (try simp [Nat.succ_le_iff] at hxz); (try have hxy := Nat.lt_of_succ_lt hxz); (try have hxy2 := Nat.lt_of_succ_lt hxy); (try have hxy3 := Nat.lt_of_succ_lt hxy2); (try have hxy4 := Nat.lt_of_succ_lt hxy3); have hxB : Below w.heap.size w w1 := (by (repeat' first | exact Below.refl _ _ | (with_reducible assumption) | (with_reducible refine bAlloc (by first | omega | (simp <;> omega)) ?_) | (with_reducible refine bSet (by first | omega | (simp <;> omega)) ?_) | (with_reducible refine bDrew ?_) | (with_reducible refine bDrewN ?_) | (with_reducible refine bTrans (by with_reducible assumption) (by first | omega | (simp <;> omega)) ?_))); have hxk := below_all hxB; (try have hxl0 : w.heap.size < w1.heap.size := (by omega)); (try have hxl1 : w.heap.size + 1 < w1.heap.size := (by omega)); (try have hxl2 : w.heap.size + 2 < w1.heap.size := (by omega)))) | (go_at_call 20; refine (hU _).mono ?_; rintro e w' ⟨rfl, rfl⟩) | (go_at_call 28; with_reducible refine (hP2 _ (hT.next hxb)).mono ?_; rintro e w2 ⟨rfl, hxb2⟩))
        all_goals (go_ret2; go_light; rw [he.out, hS.out]; refine ⟨?_, by (repeat' first | exact Below.refl _ _ | (with_reducible assumption) | (with_reducible refine bAlloc (by first | omega | (simp <;> omega)) ?_) | (with_reducible refine bSet (by first | omega | (simp <;> omega)) ?_) | (with_reducible refine bDrew ?_) | (with_reducible refine bDrewN ?_) | (with_reducible refine bTrans (by with_reducible assumption) (by first | omega | (simp <;> omega)) ?_))⟩; rw [HM.out, hM.out, hC.out, HD2.out]; rfl)
      · have he := Lib.hid (show mkE o n = 3 by unfold mkE; rw [if_pos ⟨hz, hl⟩, if_neg hn])
        have hS := Lib.hid (show mkS o n = ⟨#[]⟩ by unfold mkS; rw [he.out]; rfl)
        clear hl
        go_enter Tryd.func12, Tryd.ntmps12
        go_wp2_with (go_at_call 26; refine (hA _).mono ?_; rintro e w' ⟨rfl, rfl⟩)
        all_goals first
          | (go_ret2; go_light; rw [he.out, hS.out]; exact ⟨rfl, by (repeat' first | exact Below.refl _ _ | (with_reducible assumption) | (with_reducible refine bAlloc (by first | omega | (simp <;> omega)) ?_) | (with_reducible refine bSet (by first | omega | (simp <;> omega)) ?_) | (with_reducible refine bDrew ?_) | (with_reducible refine bDrewN ?_) | (with_reducible refine bTrans (by with_reducible assumption) (by first | omega | (simp <;> omega)) ?_))⟩)
          | (exfalso; omega)
  · have he := Lib.hid (show mkE o n = 1 by unfold mkE; rw [if_neg (by simp [hz])])
    have hS := Lib.hid (show mkS o n = ⟨#[]⟩ by unfold mkS; rw [he.out]; rfl)
    have hzI : ((o.size : Int) != 4) = true := by simp; omega
    clear hz
    go_enter Tryd.func12, Tryd.ntmps12
    go_wp2
    all_goals (go_ret2; go_light; rw [he.out, hS.out]; exact ⟨rfl, by (repeat' first | exact Below.refl _ _ | (with_reducible assumption) | (with_reducible refine bAlloc (by first | omega | (simp <;> omega)) ?_) | (with_reducible refine bSet (by first | omega | (simp <;> omega)) ?_) | (with_reducible refine bDrew ?_) | (with_reducible refine bDrewN ?_) | (with_reducible refine bTrans (by with_reducible assumption) (by first | omega | (simp <;> omega)) ?_))⟩)
end Go.Proofs.YtjohlbpahaklkaaDoor
