/-
  Days: digits, Text; the reference's.
-/
import Derived.Test.YtpgldnjejnigiaaDoorM
import Derived.Test.YtpgldnjejnigiaaDoorP
import Derived.Test.YtpgldnjejnigiaaDoorShelf
import Derived.Lib.AppendIntMem
namespace Go.Proofs.YtpgldnjejnigiaaDoor
open Go.RowKit

/-- the library's table reads as it is laid -/
def Tb (w : World) : Prop := Lib.TabIs Tryd.prog w "internal/strconv.uint64pow10" .u64 Lib.pow10Tab
theorem Tb.next {w w' : World} (h : Tb w) (hb : Below w.heap.size w w') : Tb w' := Lib.tabBelow_of_tabIs h w' hb
theorem itoaW (n : Nat) (hn : n < 9223372036854775808) (w : World) (hT : Tb w) :
    Calls Tryd.prog 58 #[.int .i64 n] w fun e w' => e = .returned (.string ⟨(Lib.decDigits n).toArray⟩) ∧ Below w.heap.size w w' := by
  refine (Tryd.strconv_Itoa n (by omega) (by omega) w hT).mono fun e w' ⟨he, k, os, hw⟩ => ⟨?_, hw ▸ Lib.below_grow _ w (Nat.le_refl _) k os⟩
  rw [he]
  unfold Lib.itoa
  rw [if_neg (by omega)]
  rfl
theorem bytes_append (x y : List UInt8) : (⟨x.toArray⟩ : ByteArray) ++ (⟨y.toArray⟩ : ByteArray) = ⟨(x ++ y).toArray⟩ := by
  apply ByteArray.ext
  rw [ByteArray.data_append]
  simp
/-- so many noughts ahead of the digits -/
def zd (n j : Nat) : ByteArray := ⟨(List.replicate j 48 ++ Lib.decDigits n).toArray⟩
theorem zd_size (n j : Nat) : (zd n j).size = j + (Lib.decDigits n).length := by unfold zd; simp [ByteArray.size]
theorem zd_next (n j : Nat) : (⟨#[48]⟩ : ByteArray) ++ zd n j = zd n (j + 1) := by
  unfold zd
  rw [show (⟨#[48]⟩ : ByteArray) = ⟨[48].toArray⟩ from rfl, bytes_append, List.replicate_succ]
  rfl
theorem zd_end {n size : Nat} (h0 : 0 < size) (hn : n < 10 ^ size) : (Lib.decDigits n).length ≤ size ∧ zd n (size - (Lib.decDigits n).length) = padB size n := by
  obtain ⟨e, hl⟩ := pad_eq size n h0 hn
  refine ⟨hl, ?_⟩
  unfold zd padB
  rw [← e]
  have := Lib.repeatL_replicate (48 : UInt8) 1 (size - (Lib.decDigits n).length)
  simp at this
  rw [this]
set_option maxHeartbeats 400000 in
theorem digitsW (n sI : Int) (size : Nat) (hsI : sI = size) (h0 : 0 < size) (hs : size ≤ 6) (n0 : 0 ≤ n) (hn : n.toNat < 10 ^ size) (w : World) (hT : Tb w) :
    Calls Tryd.prog 47 #[.int .i64 n, .int .i64 sI] w fun e w' => e = .returned (.string (padB size n.toNat)) ∧ Below w.heap.size w w' := by
  subst hsI
  obtain ⟨n, rfl⟩ := Int.eq_ofNat_of_zero_le n0
  rw [Int.toNat_natCast] at hn ⊢
  obtain ⟨hl, he⟩ := zd_end h0 hn
  have hn6 : n < 9223372036854775808 := by
    have : 10 ^ size ≤ 10 ^ 6 := Nat.pow_le_pow_right (by omega) hs
    omega
  have hI := itoaW n hn6
  rw [show (⟨(Lib.decDigits n).toArray⟩ : ByteArray) = zd n 0 by unfold zd; rfl] at hI
  have HE := Lib.hid he
  clear he hn hn6
  have hz := Lib.hid (fun j => zd_size n j)
  generalize hDL : (Lib.decDigits n).length = DL at *
  clear hDL
  have hz0 := hz.out 0
  go_enter Tryd.func47, Tryd.ntmps47
  go_wp2_with (go_at_call 58; refine (hI _ hT).mono ?_; rintro e w1 ⟨rfl, hxb⟩; (obtain ⟨hxc, hxf⟩ := bcell hxb; have hxz := hxb.size; (try simp [Nat.succ_le_iff] at hxz); (try have hxy := Nat.lt_of_succ_lt hxz); (try have hxy2 := Nat.lt_of_succ_lt hxy); (try have hxy3 := Nat.lt_of_succ_lt hxy2); (try have hxy4 := Nat.lt_of_succ_lt hxy3); have hxB : Below w.heap.size w w1 := (by (repeat' first | exact Below.refl _ _ | (with_reducible assumption) | (with_reducible refine bAlloc (by first | omega | (simp <;> omega)) ?_) | (with_reducible refine bSet (by first | omega | (simp <;> omega)) ?_) | (with_reducible refine bDrew ?_) | (with_reducible refine bDrewN ?_) | (with_reducible refine bTrans (by with_reducible assumption) (by first | omega | (simp <;> omega)) ?_))); have hxk := below_all hxB; (try have hxl0 : w.heap.size < w1.heap.size := (by omega)); (try have hxl1 : w.heap.size + 1 < w1.heap.size := (by omega)); (try have hxl2 : w.heap.size + 2 < w1.heap.size := (by omega))))
  clear hz0
  go_loop [5] (fun s => ∃ j : Nat, j ≤ size - DL ∧ s = .string (zd n j)) (fun s => match s with | .string b => size - b.size | _ => 0)
  case atStart => exact ⟨0, by omega, rfl⟩
  case round =>
    obtain ⟨j, hj, rfl⟩ := hrel
    have hzj := hz.out j
    have hzx := Lib.hid (zd_next n j)
    have hzn := Lib.hid (hz.out (j + 1))
    generalize hZ : zd n j = Z at *
    by_cases hlt : j < size - DL
    · have hlI : (Z.size : Int) < size := by omega
      have HZ := Lib.hid hzj
      have hZ6 : Z.size ≤ 6 := by omega
      clear hzj hZ
      go_wp2
      go_round
      case rel => exact ⟨j + 1, by omega, by rw [hzx.out]⟩
      case measure => simp only [hzx.out]; have a := HZ.out; have b := hzn.out; omega
    · have hlI : (size : Int) ≤ Z.size := by omega
      have HZ := Lib.hid hZ
      have hZ6 : Z.size ≤ 6 := by omega
      clear hzj hZ
      go_wp2
      go_ret
      exact ⟨by rw [← HE.out, ← HZ.out, show j = size - DL by omega]; rfl, by (repeat' first | exact Below.refl _ _ | (with_reducible assumption) | (with_reducible refine bAlloc (by first | omega | (simp <;> omega)) ?_) | (with_reducible refine bSet (by first | omega | (simp <;> omega)) ?_) | (with_reducible refine bDrew ?_) | (with_reducible refine bDrewN ?_) | (with_reducible refine bTrans (by with_reducible assumption) (by first | omega | (simp <;> omega)) ?_))⟩
theorem pad_cons : ∀ (k n : Nat), pad (k + 1) n = UInt8.ofNat (48 + n / 10 ^ k % 10) :: pad k n
  | 0, n => by simp [pad]
  | k + 1, n => by
    rw [pad, pad_cons k (n / 10), pad, List.cons_append, Nat.div_div_eq_div_mul, ← Nat.pow_succ']
theorem conv1 (W : World) (x : Int) : (convert 60 9 (.slice (some ⟨W.heap.size, 0, none⟩) 1 1)).run Tryd.prog (W.alloc (.cells #[.int .u8 x] 5)) = .ok (.string (strOfNums [x])) (W.alloc (.cells #[.int .u8 x] 5)) :=
  run_convert_bytes_arg _ 60 5 Tryd.underlying60 Tryd.underlying5 W.heap.size 0 1 1 [x] rfl (fun i hi => by
    rw [World.cell?_alloc_new]
    match i, hi with
    | 0, _ => rfl) 9 Tryd.underlying9
theorem str1_size (x : Int) : (strOfNums [x]).size = 1 := rfl
theorem str1_pad (k n : Nat) : strOfNums [48 + ((n / 10 ^ k : Nat) : Int) % 10] ++ padB k n = padB (k + 1) n := by
  unfold padB
  rw [pad_cons, show UInt8.ofNat (48 + n / 10 ^ k % 10) :: pad k n = [UInt8.ofNat (48 + n / 10 ^ k % 10)] ++ pad k n from rfl, ← bytes_append]
  have : (48 + ((n / 10 ^ k : Nat) : Int) % 10).toNat = 48 + n / 10 ^ k % 10 := by generalize n / 10 ^ k = q; omega
  unfold strOfNums
  rw [List.map_cons, List.map_nil, this]
set_option maxHeartbeats 400000 in
theorem refDigitsW (n sI : Int) (size : Nat) (hsI : sI = size) (hs : size ≤ 6) (n0 : 0 ≤ n) (n1 : n ≤ 1000000) (w : World) :
    Calls Tryd.prog 51 #[.int .i64 n, .int .i64 sI] w fun e w' => e = .returned (.string (padB size n.toNat)) ∧ Below w.heap.size w w' := by
  subst hsI
  obtain ⟨n, rfl⟩ := Int.eq_ofNat_of_zero_le n0
  rw [Int.toNat_natCast]
  have cv1 := conv1
  have sz1 := str1_size
  have hn' := Lib.hid n1
  clear n1
  go_enter Tryd.func51, Tryd.ntmps51
  go_wp2
  go_loopw [0, 5, 6] (fun n' s i W => ∃ k : Nat, k ≤ size ∧ i = .int .i64 k ∧ n' = .int .i64 (n / 10 ^ k : Nat) ∧ s = .string (padB k n) ∧ Below w.heap.size w W) (fun _ _ i _ => size - (intOf i).toNat)
  case atStart => exact ⟨0, Nat.zero_le _, rfl, by simp, rfl, by (repeat' first | exact Below.refl _ _ | (with_reducible assumption) | (with_reducible refine bAlloc (by first | omega | (simp <;> omega)) ?_) | (with_reducible refine bSet (by first | omega | (simp <;> omega)) ?_) | (with_reducible refine bDrew ?_) | (with_reducible refine bDrewN ?_) | (with_reducible refine bTrans (by with_reducible assumption) (by first | omega | (simp <;> omega)) ?_))⟩
  case round =>
    obtain ⟨k, hk, rfl, rfl, rfl, hB⟩ := hrel
    have hz0 := hB.size
    by_cases hlt : k < size
    · have hq : n / 10 ^ k ≤ 1000000 := Nat.le_trans (Nat.div_le_self _ _) (by have := hn'.out; omega)
      have hz := padB_size k n
      obtain ⟨N, hN⟩ : ∃ N : Int, ((n / 10 ^ k : Nat) : Int) = N := ⟨_, rfl⟩
      have h0 : 0 ≤ N := by rw [← hN]; exact Int.natCast_nonneg _
      have h1 : N ≤ 1000000 := by rw [← hN]; have := hq; generalize n / 10 ^ k = q at *; omega
      have HN := Lib.hid hN
      rw [hN]
      clear hq hN
      generalize hS : padB k n = S at *
      have HS := Lib.hid hS
      clear hS
      go_wp2
      all_goals
        (go_roundw
         case rel => go_light; exact ⟨k + 1, by omega, by go_num, by rw [← HN.out, Nat.pow_succ, ← Nat.div_div_eq_div_mul]; rfl, by rw [← HS.out, ← str1_pad, HN.out], by (repeat' first | exact Below.refl _ _ | (with_reducible assumption) | (with_reducible refine bAlloc (by first | omega | (simp <;> omega)) ?_) | (with_reducible refine bSet (by first | omega | (simp <;> omega)) ?_) | (with_reducible refine bDrew ?_) | (with_reducible refine bDrewN ?_) | (with_reducible refine bTrans (by with_reducible assumption) (by first | omega | (simp <;> omega)) ?_))⟩
         case measure => simp [intOf]; omega)
    · obtain rfl : k = size := by omega
      generalize ((n / 10 ^ k : Nat) : Int) = N
      generalize hD : padB k n = D6 at *
      have HD := Lib.hid hD
      clear hD
      go_wp2
      go_ret
      exact ⟨by rw [HD.out]; rfl, by (repeat' first | exact Below.refl _ _ | (with_reducible assumption) | (with_reducible refine bAlloc (by first | omega | (simp <;> omega)) ?_) | (with_reducible refine bSet (by first | omega | (simp <;> omega)) ?_) | (with_reducible refine bDrew ?_) | (with_reducible refine bDrewN ?_) | (with_reducible refine bTrans (by with_reducible assumption) (by first | omega | (simp <;> omega)) ?_))⟩
def dash : ByteArray := ⟨#[45]⟩
def textB (d : Int) : ByteArray := padB 4 (2000 + (ymd d).n) ++ dash ++ padB 2 ((ymd d).m + 1) ++ dash ++ padB 2 ((ymd d).o + 1).toNat
theorem textNo (d : Int) (w : World) (hd : isD d = false) : Calls Tryd.prog 29 #[.int .i64 d] w fun e w' => e = .returned (.string ⟨#[]⟩) ∧ w = w' := by
  have hI := fun w => isW d w
  simp only [hd] at hI
  clear hd
  go_enter Tryd.func29, Tryd.ntmps29
  go_wp2_with (go_at_call 33; refine (hI _).mono ?_; rintro e w' ⟨rfl, rfl⟩)
  go_ret
  exact ⟨rfl, rfl⟩
set_option maxHeartbeats 400000 in
theorem textW (d : Int) (w : World) (hd : isD d = true) (hM : Mt w) (hT : Tb w) : Calls Tryd.prog 29 #[.int .i64 d] w fun e w' => e = .returned (.string (textB d)) ∧ Below w.heap.size w w' := by
  have hI := fun w => isW d w
  have hY := fun w h => monthWy d w hd h
  obtain ⟨a0, a1, a2, -, a3⟩ := ymd_spec hd
  have hmr := monL_range (2000 + (ymd d).n) (ymd d).m
  have h4 := fun w h => digitsW (2000 + (ymd d).n) 4 4 rfl (by omega) (by omega) (by omega) (by show _ < 10000; omega) w h
  have h2 := fun w h => digitsW ((ymd d).m + 1) 2 2 rfl (by omega) (by omega) (by omega) (by show _ < 100; omega) w h
  have h1 := fun w h => digitsW ((ymd d).o + 1) 2 2 rfl (by omega) (by omega) (by omega) (by show _ < 100; omega) w h
  have hx := Lib.hid (show textB d = padB 4 (2000 + ((ymd d).n : Int)).toNat ++ ⟨#[45]⟩ ++ padB 2 (((ymd d).m : Int) + 1).toNat ++ ⟨#[45]⟩ ++ padB 2 ((ymd d).o + 1).toNat by
    unfold textB dash
    rw [show (2000 + ((ymd d).n : Int)).toNat = 2000 + (ymd d).n by omega, show (((ymd d).m : Int) + 1).toNat = (ymd d).m + 1 by omega])
  have z4 := padB_size 4 (2000 + ((ymd d).n : Int)).toNat
  have z2 := padB_size 2 (((ymd d).m : Int) + 1).toNat
  have z1 := padB_size 2 ((ymd d).o + 1).toNat
  simp only [hd] at hI
  clear hd hmr a0 a1 a2 a3
  generalize padB 4 (2000 + ((ymd d).n : Int)).toNat = S4 at *
  generalize padB 2 (((ymd d).m : Int) + 1).toNat = S2 at *
  generalize padB 2 ((ymd d).o + 1).toNat = S1 at *
  generalize (ymd d).n = N at *
  generalize (ymd d).m = M at *
  generalize (ymd d).o = O at *
  go_enter Tryd.func29, Tryd.ntmps29
  go_wp2_with (first | (go_at_call 33; refine (hI _).mono ?_; rintro e w' ⟨rfl, rfl⟩) | (go_at_call 11; refine (hY _ (hM.next (by (repeat' first | exact Below.refl _ _ | (with_reducible assumption) | (with_reducible refine bAlloc (by first | omega | (simp <;> omega)) ?_) | (with_reducible refine bSet (by first | omega | (simp <;> omega)) ?_) | (with_reducible refine bDrew ?_) | (with_reducible refine bDrewN ?_) | (with_reducible refine bTrans (by with_reducible assumption) (by first | omega | (simp <;> omega)) ?_))))).mono ?_; rintro e w' ⟨rfl, rfl⟩) | (go_at_call 47; with_reducible refine (h4 _ (hT.next (by (repeat' first | exact Below.refl _ _ | (with_reducible assumption) | (with_reducible refine bAlloc (by first | omega | (simp <;> omega)) ?_) | (with_reducible refine bSet (by first | omega | (simp <;> omega)) ?_) | (with_reducible refine bDrew ?_) | (with_reducible refine bDrewN ?_) | (with_reducible refine bTrans (by with_reducible assumption) (by first | omega | (simp <;> omega)) ?_))))).mono ?_; rintro e w1 ⟨rfl, hxb⟩; (obtain ⟨hxc, hxf⟩ := bcell hxb; have hxz := hxb.size; (try simp [Nat.succ_le_iff] at hxz); (try have hxy := Nat.lt_of_succ_lt hxz); (try have hxy2 := Nat.lt_of_succ_lt hxy); (try have hxy3 := Nat.lt_of_succ_lt hxy2); (try have hxy4 := Nat.lt_of_succ_lt hxy3); have hxB : Below w.heap.size w w1 := (by (repeat' first | exact Below.refl _ _ | (with_reducible assumption) | (with_reducible refine bAlloc (by first | omega | (simp <;> omega)) ?_) | (with_reducible refine bSet (by first | omega | (simp <;> omega)) ?_) | (with_reducible refine bDrew ?_) | (with_reducible refine bDrewN ?_) | (with_reducible refine bTrans (by with_reducible assumption) (by first | omega | (simp <;> omega)) ?_))); have hxk := below_all hxB; (try have hxl0 : w.heap.size < w1.heap.size := (by omega)); (try have hxl1 : w.heap.size + 1 < w1.heap.size := (by omega)); (try have hxl2 : w.heap.size + 2 < w1.heap.size := (by omega)))) | (go_at_call 47; with_reducible refine (h2 _ (hT.next (by (repeat' first | exact Below.refl _ _ | (with_reducible assumption) | (with_reducible refine bAlloc (by first | omega | (simp <;> omega)) ?_) | (with_reducible refine bSet (by first | omega | (simp <;> omega)) ?_) | (with_reducible refine bDrew ?_) | (with_reducible refine bDrewN ?_) | (with_reducible refine bTrans (by with_reducible assumption) (by first | omega | (simp <;> omega)) ?_))))).mono ?_; rintro e w1 ⟨rfl, hxb⟩; (obtain ⟨hxc, hxf⟩ := bcell hxb; have hxz := hxb.size; (try simp [Nat.succ_le_iff] at hxz); (try have hxy := Nat.lt_of_succ_lt hxz); (try have hxy2 := Nat.lt_of_succ_lt hxy); (try have hxy3 := Nat.lt_of_succ_lt hxy2); (try have hxy4 := Nat.lt_of_succ_lt hxy3); have hxB : Below w.heap.size w w1 := (by (repeat' first | exact Below.refl _ _ | (with_reducible assumption) | (with_reducible refine bAlloc (by first | omega | (simp <;> omega)) ?_) | (with_reducible refine bSet (by first | omega | (simp <;> omega)) ?_) | (with_reducible refine bDrew ?_) | (with_reducible refine bDrewN ?_) | (with_reducible refine bTrans (by with_reducible assumption) (by first | omega | (simp <;> omega)) ?_))); have hxk := below_all hxB; (try have hxl0 : w.heap.size < w1.heap.size := (by omega)); (try have hxl1 : w.heap.size + 1 < w1.heap.size := (by omega)); (try have hxl2 : w.heap.size + 2 < w1.heap.size := (by omega)))) | (go_at_call 47; with_reducible refine (h1 _ (hT.next (by (repeat' first | exact Below.refl _ _ | (with_reducible assumption) | (with_reducible refine bAlloc (by first | omega | (simp <;> omega)) ?_) | (with_reducible refine bSet (by first | omega | (simp <;> omega)) ?_) | (with_reducible refine bDrew ?_) | (with_reducible refine bDrewN ?_) | (with_reducible refine bTrans (by with_reducible assumption) (by first | omega | (simp <;> omega)) ?_))))).mono ?_; rintro e w1 ⟨rfl, hxb⟩; (obtain ⟨hxc, hxf⟩ := bcell hxb; have hxz := hxb.size; (try simp [Nat.succ_le_iff] at hxz); (try have hxy := Nat.lt_of_succ_lt hxz); (try have hxy2 := Nat.lt_of_succ_lt hxy); (try have hxy3 := Nat.lt_of_succ_lt hxy2); (try have hxy4 := Nat.lt_of_succ_lt hxy3); have hxB : Below w.heap.size w w1 := (by (repeat' first | exact Below.refl _ _ | (with_reducible assumption) | (with_reducible refine bAlloc (by first | omega | (simp <;> omega)) ?_) | (with_reducible refine bSet (by first | omega | (simp <;> omega)) ?_) | (with_reducible refine bDrew ?_) | (with_reducible refine bDrewN ?_) | (with_reducible refine bTrans (by with_reducible assumption) (by first | omega | (simp <;> omega)) ?_))); have hxk := below_all hxB; (try have hxl0 : w.heap.size < w1.heap.size := (by omega)); (try have hxl1 : w.heap.size + 1 < w1.heap.size := (by omega)); (try have hxl2 : w.heap.size + 2 < w1.heap.size := (by omega)))))
  go_ret
  exact ⟨by rw [hx.out]; rfl, by (repeat' first | exact Below.refl _ _ | (with_reducible assumption) | (with_reducible refine bAlloc (by first | omega | (simp <;> omega)) ?_) | (with_reducible refine bSet (by first | omega | (simp <;> omega)) ?_) | (with_reducible refine bDrew ?_) | (with_reducible refine bDrewN ?_) | (with_reducible refine bTrans (by with_reducible assumption) (by first | omega | (simp <;> omega)) ?_))⟩
set_option maxHeartbeats 400000 in
theorem refTextW (d : Int) (w : World) (hd : isD d = true) : Calls Tryd.prog 31 #[.int .i64 d] w fun e w' => e = .returned (.string (textB d)) ∧ Below w.heap.size w w' := by
  have hY := fun w => refMonthW d w hd
  obtain ⟨a0, a1, a2, -, a3⟩ := ymd_spec hd
  have hmr := monL_range (2000 + (ymd d).n) (ymd d).m
  have h4 := fun w => refDigitsW (2000 + (ymd d).n) 4 4 rfl (by omega) (by omega) (by omega) w
  have h2 := fun w => refDigitsW ((ymd d).m + 1) 2 2 rfl (by omega) (by omega) (by omega) w
  have h1 := fun w => refDigitsW ((ymd d).o + 1) 2 2 rfl (by omega) (by omega) (by omega) w
  have hx := Lib.hid (show textB d = padB 4 (2000 + ((ymd d).n : Int)).toNat ++ ⟨#[45]⟩ ++ padB 2 (((ymd d).m : Int) + 1).toNat ++ ⟨#[45]⟩ ++ padB 2 ((ymd d).o + 1).toNat by
    unfold textB dash
    rw [show (2000 + ((ymd d).n : Int)).toNat = 2000 + (ymd d).n by omega, show (((ymd d).m : Int) + 1).toNat = (ymd d).m + 1 by omega])
  have z4 := padB_size 4 (2000 + ((ymd d).n : Int)).toNat
  have z2 := padB_size 2 (((ymd d).m : Int) + 1).toNat
  have z1 := padB_size 2 ((ymd d).o + 1).toNat
  clear hd hmr a0 a1 a2 a3
  generalize padB 4 (2000 + ((ymd d).n : Int)).toNat = S4 at *
  generalize padB 2 (((ymd d).m : Int) + 1).toNat = S2 at *
  generalize padB 2 ((ymd d).o + 1).toNat = S1 at *
  generalize (ymd d).n = N at *
  generalize (ymd d).m = M at *
  generalize (ymd d).o = O at *
  go_enter Tryd.func31, Tryd.ntmps31
  go_wp2_with (first | (go_at_call 15; refine (hY _).mono ?_; rintro e w' ⟨rfl, rfl⟩) | (go_at_call 51; with_reducible refine (h4 _).mono ?_; rintro e w1 ⟨rfl, hxb⟩; (obtain ⟨hxc, hxf⟩ := bcell hxb; have hxz := hxb.size; (try simp [Nat.succ_le_iff] at hxz); (try have hxy := Nat.lt_of_succ_lt hxz); (try have hxy2 := Nat.lt_of_succ_lt hxy); (try have hxy3 := Nat.lt_of_succ_lt hxy2); (try have hxy4 := Nat.lt_of_succ_lt hxy3); have hxB : Below w.heap.size w w1 := (by (repeat' first | exact Below.refl _ _ | (with_reducible assumption) | (with_reducible refine bAlloc (by first | omega | (simp <;> omega)) ?_) | (with_reducible refine bSet (by first | omega | (simp <;> omega)) ?_) | (with_reducible refine bDrew ?_) | (with_reducible refine bDrewN ?_) | (with_reducible refine bTrans (by with_reducible assumption) (by first | omega | (simp <;> omega)) ?_))); have hxk := below_all hxB; (try have hxl0 : w.heap.size < w1.heap.size := (by omega)); (try have hxl1 : w.heap.size + 1 < w1.heap.size := (by omega)); (try have hxl2 : w.heap.size + 2 < w1.heap.size := (by omega)))) | (go_at_call 51; with_reducible refine (h2 _).mono ?_; rintro e w1 ⟨rfl, hxb⟩; (obtain ⟨hxc, hxf⟩ := bcell hxb; have hxz := hxb.size; (try simp [Nat.succ_le_iff] at hxz); (try have hxy := Nat.lt_of_succ_lt hxz); (try have hxy2 := Nat.lt_of_succ_lt hxy); (try have hxy3 := Nat.lt_of_succ_lt hxy2); (try have hxy4 := Nat.lt_of_succ_lt hxy3); have hxB : Below w.heap.size w w1 := (by (repeat' first | exact Below.refl _ _ | (with_reducible assumption) | (with_reducible refine bAlloc (by first | omega | (simp <;> omega)) ?_) | (with_reducible refine bSet (by first | omega | (simp <;> omega)) ?_) | (with_reducible refine bDrew ?_) | (with_reducible refine bDrewN ?_) | (with_reducible refine bTrans (by with_reducible assumption) (by first | omega | (simp <;> omega)) ?_))); have hxk := below_all hxB; (try have hxl0 : w.heap.size < w1.heap.size := (by omega)); (try have hxl1 : w.heap.size + 1 < w1.heap.size := (by omega)); (try have hxl2 : w.heap.size + 2 < w1.heap.size := (by omega)))) | (go_at_call 51; with_reducible refine (h1 _).mono ?_; rintro e w1 ⟨rfl, hxb⟩; (obtain ⟨hxc, hxf⟩ := bcell hxb; have hxz := hxb.size; (try simp [Nat.succ_le_iff] at hxz); (try have hxy := Nat.lt_of_succ_lt hxz); (try have hxy2 := Nat.lt_of_succ_lt hxy); (try have hxy3 := Nat.lt_of_succ_lt hxy2); (try have hxy4 := Nat.lt_of_succ_lt hxy3); have hxB : Below w.heap.size w w1 := (by (repeat' first | exact Below.refl _ _ | (with_reducible assumption) | (with_reducible refine bAlloc (by first | omega | (simp <;> omega)) ?_) | (with_reducible refine bSet (by first | omega | (simp <;> omega)) ?_) | (with_reducible refine bDrew ?_) | (with_reducible refine bDrewN ?_) | (with_reducible refine bTrans (by with_reducible assumption) (by first | omega | (simp <;> omega)) ?_))); have hxk := below_all hxB; (try have hxl0 : w.heap.size < w1.heap.size := (by omega)); (try have hxl1 : w.heap.size + 1 < w1.heap.size := (by omega)); (try have hxl2 : w.heap.size + 2 < w1.heap.size := (by omega)))))
  go_ret
  exact ⟨by rw [hx.out]; rfl, by (repeat' first | exact Below.refl _ _ | (with_reducible assumption) | (with_reducible refine bAlloc (by first | omega | (simp <;> omega)) ?_) | (with_reducible refine bSet (by first | omega | (simp <;> omega)) ?_) | (with_reducible refine bDrew ?_) | (with_reducible refine bDrewN ?_) | (with_reducible refine bTrans (by with_reducible assumption) (by first | omega | (simp <;> omega)) ?_))⟩
end Go.Proofs.YtpgldnjejnigiaaDoor
