/-
  Money: the reference's Text.
-/
import Derived.Test.YtgnmjopifdekiaaDoorF
namespace Go.Proofs.YtgnmjopifdekiaaDoor
set_option linter.unusedVariables false
set_option linter.unusedSimpArgs false
open Go.RowKit

theorem pad_cons : ∀ (k n : Nat), pad (k + 1) n = UInt8.ofNat (48 + n / 10 ^ k % 10) :: pad k n
  | 0, n => by simp [pad]
  | k + 1, n => by
    rw [pad, pad_cons k (n / 10), pad, List.cons_append, Nat.div_div_eq_div_mul, ← Nat.pow_succ']
theorem conv1 (W : World) (x : Int) : (convert 79 9 (.slice (some ⟨W.heap.size, 0, none⟩) 1 1)).run Tryd.prog (W.alloc (.cells #[.int .u8 x] 5)) = .ok (.string (strOfNums [x])) (W.alloc (.cells #[.int .u8 x] 5)) :=
  run_convert_bytes_arg _ 79 5 Tryd.underlying79 Tryd.underlying5 W.heap.size 0 1 1 [x] rfl (fun i hi => by
    rw [World.cell?_alloc_new]
    match i, hi with
    | 0, _ => rfl) 9 Tryd.underlying9
theorem str1_size (x : Int) : (strOfNums [x]).size = 1 := rfl
theorem str1_pad (k n : Nat) : strOfNums [48 + ((n / 10 ^ k : Nat) : Int) % 10] ++ padB k n = padB (k + 1) n := by
  unfold padB
  rw [pad_cons, show UInt8.ofNat (48 + n / 10 ^ k % 10) :: pad k n = [UInt8.ofNat (48 + n / 10 ^ k % 10)] ++ pad k n from rfl, ← bytes_app]
  have : (48 + ((n / 10 ^ k : Nat) : Int) % 10).toNat = 48 + n / 10 ^ k % 10 := by generalize n / 10 ^ k = q; omega
  unfold strOfNums
  rw [List.map_cons, List.map_nil, this]
theorem small_pow {k n : Nat} (h : 10 ^ k ≤ n) (hn : n ≤ 1099511627776) : k ≤ 12 := by
  rcases Nat.lt_or_ge 12 k with h1 | h1
  · have : 10 ^ 13 ≤ 10 ^ k := Nat.pow_le_pow_right (by omega) h1
    omega
  · exact h1
set_option maxHeartbeats 800000 in
theorem wholeW (n sI : Int) (least : Nat) (S : ByteArray) (hsI : sI = least) (hs : least ≤ 3) (n0 : 0 ≤ n) (n1 : n ≤ 1099511627776)
    (hS : ∀ K, n.toNat < 10 ^ K → least ≤ K → (K ≤ least ∨ 10 ^ (K - 1) ≤ n.toNat) → padB K n.toNat = S) (w : World) :
    Calls Tryd.prog 42 #[.int .i64 n, .int .i64 sI] w fun e w' => e = .returned (.string S) ∧ Below w.heap.size w w' ∧ S.size ≤ 13 := by
  subst hsI
  obtain ⟨n, rfl⟩ := Int.eq_ofNat_of_zero_le n0
  rw [Int.toNat_natCast] at hS
  have cv1 := conv1
  have sz1 := str1_size
  have hn' := Lib.hid n1
  have hS' := Lib.hid hS
  clear n1 hS
  go_enter Tryd.func42, Tryd.ntmps42
  go_wp2
  go_loopw [0, 5] (fun n' s W => ∃ k : Nat, (k ≤ least ∨ 10 ^ (k - 1) ≤ n) ∧ k ≤ 13 ∧ n' = .int .i64 (n / 10 ^ k : Nat) ∧ s = .string (padB k n) ∧ Below w.heap.size w W) (fun _ s _ => match s with | .string b => 14 - b.size | _ => 0)
  case atStart => exact ⟨0, .inl (Nat.zero_le _), by omega, by simp, rfl, by (repeat' first | exact Below.refl _ _ | (with_reducible assumption) | (with_reducible refine bAlloc (by first | omega | (simp <;> omega)) ?_) | (with_reducible refine bSet (by first | omega | (simp <;> omega)) ?_) | (with_reducible refine bDrew ?_) | (with_reducible refine bDrewN ?_) | (with_reducible refine bTrans (by with_reducible assumption) (by first | omega | (simp <;> omega)) ?_))⟩
  case round =>
    obtain ⟨k, hk0, hk1, rfl, rfl, hB⟩ := hrel
    have hz0 := hB.size
    have hz := padB_size k n
    have hz1 := Lib.hid (padB_size (k + 1) n)
    have hq : n / 10 ^ k ≤ 1099511627776 := Nat.le_trans (Nat.div_le_self _ _) (by have := hn'.out; omega)
    have hp : 0 < 10 ^ k := Nat.pow_pos (by omega)
    have hq1 : 0 < n / 10 ^ k → 10 ^ k ≤ n := fun h => by
      rcases Nat.lt_or_ge n (10 ^ k) with h1 | h1
      · rw [Nat.div_eq_of_lt h1] at h; omega
      · exact h1
    have hq2 : n / 10 ^ k = 0 → n < 10 ^ k := fun h => by
      rcases Nat.lt_or_ge n (10 ^ k) with h1 | h1
      · exact h1
      · have := Nat.div_pos h1 hp; omega
    have hK := Lib.hid hk0
    have hnn : n ≤ 1099511627776 := by have := hn'.out; omega
    have hq3 : 0 < n / 10 ^ k → k ≤ 12 := fun h => small_pow (hq1 h) hnn
    have HQ1 := Lib.hid hq1
    have HQ2 := Lib.hid hq2
    have hsx := Lib.hid (str1_pad k n)
    have hdv := Lib.hid (show n / 10 ^ (k + 1) = n / 10 ^ k / 10 by rw [Nat.pow_succ, ← Nat.div_div_eq_div_mul])
    obtain ⟨N, hN⟩ : ∃ N : Int, ((n / 10 ^ k : Nat) : Int) = N := ⟨_, rfl⟩
    have h0 : 0 ≤ N := by rw [← hN]; exact Int.natCast_nonneg _
    have h1 : N ≤ 1099511627776 := by rw [← hN]; omega
    have HN := Lib.hid hN
    rw [hN]
    rw [hN] at hsx
    have hcase : (0 < N ∧ k ≤ 12) ∨ (N = 0 ∧ k < least) ∨ (N = 0 ∧ least ≤ k) := by
      rcases Nat.eq_zero_or_pos (n / 10 ^ k) with h | h
      · rw [h] at hN; omega
      · have := hq3 h; left; omega
    clear hq hq1 hq2 hq3 hp hk0 hnn hN
    generalize hSS : padB k n = Z at *
    have HSS := Lib.hid hSS
    have HZ := Lib.hid hz
    clear hSS
    rcases hcase with ⟨h2, h3⟩ | ⟨rfl, h3⟩ | ⟨rfl, h3⟩
    · go_wp2
      all_goals
        (go_roundw
         case rel => go_light; exact ⟨k + 1, .inr (by rw [Nat.add_sub_cancel]; exact HQ1.out (by have := HN.out; omega)), by omega, by rw [hdv.out]; have := HN.out; go_num, by rw [← hsx.out], by (repeat' first | exact Below.refl _ _ | (with_reducible assumption) | (with_reducible refine bAlloc (by first | omega | (simp <;> omega)) ?_) | (with_reducible refine bSet (by first | omega | (simp <;> omega)) ?_) | (with_reducible refine bDrew ?_) | (with_reducible refine bDrewN ?_) | (with_reducible refine bTrans (by with_reducible assumption) (by first | omega | (simp <;> omega)) ?_))⟩
         case measure => simp only [hsx.out]; have a := HZ.out; have b := hz1.out; omega)
    · replace hsx := Lib.hid (show strOfNums [48] ++ Z = padB (k + 1) n from hsx.out)
      go_wp2
      all_goals
        (go_roundw
         case rel => go_light; exact ⟨k + 1, .inl (by omega), by omega, by rw [hdv.out]; have := HN.out; go_num, by rw [← hsx.out], by (repeat' first | exact Below.refl _ _ | (with_reducible assumption) | (with_reducible refine bAlloc (by first | omega | (simp <;> omega)) ?_) | (with_reducible refine bSet (by first | omega | (simp <;> omega)) ?_) | (with_reducible refine bDrew ?_) | (with_reducible refine bDrewN ?_) | (with_reducible refine bTrans (by with_reducible assumption) (by first | omega | (simp <;> omega)) ?_))⟩
         case measure => simp only [hsx.out]; have a := HZ.out; have b := hz1.out; omega)
    · go_wp2
      go_ret
      have e := hS'.out k (HQ2.out (by have := HN.out; omega)) h3 hK.out
      rw [HSS.out] at e
      subst e
      exact ⟨rfl, by (repeat' first | exact Below.refl _ _ | (with_reducible assumption) | (with_reducible refine bAlloc (by first | omega | (simp <;> omega)) ?_) | (with_reducible refine bSet (by first | omega | (simp <;> omega)) ?_) | (with_reducible refine bDrew ?_) | (with_reducible refine bDrewN ?_) | (with_reducible refine bTrans (by with_reducible assumption) (by first | omega | (simp <;> omega)) ?_)), by have := HZ.out; omega⟩
/-- the first digits -/
theorem whole1W (n : Int) (n0 : 0 ≤ n) (n1 : n ≤ 1099511627776) (w : World) :
    Calls Tryd.prog 42 #[.int .i64 n, .int .i64 1] w fun e w' => e = .returned (.string (decB n.toNat)) ∧ Below w.heap.size w w' ∧ (decB n.toNat).size ≤ 13 :=
  wholeW n 1 1 _ rfl (by omega) n0 n1 (fun K h1 h2 h3 => nd_of h1 (by omega) (by rcases h3 with h | h; exact .inl (by omega); exact .inr h)) w
/-- behind the point -/
theorem whole2W (n : Int) (d : Nat) (hd : d ≤ 3) (n0 : 0 ≤ n) (n1 : n ≤ 1099511627776) (h : n.toNat < 10 ^ d) (w : World) :
    Calls Tryd.prog 42 #[.int .i64 n, .int .i64 d] w fun e w' => e = .returned (.string (padB d n.toNat)) ∧ Below w.heap.size w w' :=
  (wholeW n d d _ rfl hd n0 n1 (fun K h1 h2 h3 => by
    rcases h3 with h3 | h3
    · rw [show K = d by omega]
    · have : K - 1 < d := by
        rcases Nat.lt_or_ge (K - 1) d with g | g
        · exact g
        · have : 10 ^ d ≤ 10 ^ (K - 1) := Nat.pow_le_pow_right (by omega) g
          omega
      rw [show K = d by omega]) w).mono fun e w' ⟨h1, h2, _⟩ => ⟨h1, h2⟩
set_option maxHeartbeats 2000000 in
set_option maxRecDepth 100000 in
theorem refTextW (c : ByteArray) (n : Int) (w : World) :
    Calls Tryd.prog 17 #[mv c n] w fun e w' => e = .returned (.string (textM c n)) ∧ Below w.heap.size w w' := by
  have hM := fun w => refMayW c n w
  cases hm : mayM c n with
  | false =>
    have he := Lib.hid (show textM c n = ⟨#[]⟩ by unfold textM; rw [hm]; rfl)
    simp only [hm] at hM
    clear hm
    go_enter Tryd.func17, Tryd.ntmps17
    go_wp2_with (go_at_call 14; refine (hM _).mono ?_; rintro e w1 ⟨rfl, hxb⟩; (obtain ⟨hxc, hxf⟩ := bcell hxb; have hxz := hxb.size; (try simp [Nat.succ_le_iff] at hxz); (try have hxy := Nat.lt_of_succ_lt hxz); (try have hxy2 := Nat.lt_of_succ_lt hxy); (try have hxy3 := Nat.lt_of_succ_lt hxy2); (try have hxy4 := Nat.lt_of_succ_lt hxy3); have hxB : Below w.heap.size w w1 := (by (repeat' first | exact Below.refl _ _ | (with_reducible assumption) | (with_reducible refine bAlloc (by first | omega | (simp <;> omega)) ?_) | (with_reducible refine bSet (by first | omega | (simp <;> omega)) ?_) | (with_reducible refine bDrew ?_) | (with_reducible refine bDrewN ?_) | (with_reducible refine bTrans (by with_reducible assumption) (by first | omega | (simp <;> omega)) ?_))); have hxk := below_all hxB; (try have hxl0 : w.heap.size < w1.heap.size := (by omega)); (try have hxl1 : w.heap.size + 1 < w1.heap.size := (by omega)); (try have hxl2 : w.heap.size + 2 < w1.heap.size := (by omega))))
    go_ret
    rw [he.out]
    exact ⟨rfl, by (repeat' first | exact Below.refl _ _ | (with_reducible assumption) | (with_reducible refine bAlloc (by first | omega | (simp <;> omega)) ?_) | (with_reducible refine bSet (by first | omega | (simp <;> omega)) ?_) | (with_reducible refine bDrew ?_) | (with_reducible refine bDrewN ?_) | (with_reducible refine bTrans (by with_reducible assumption) (by first | omega | (simp <;> omega)) ?_))⟩
  | true =>
    have he := Lib.hid (show textM c n = moneyB c n by unfold textM; rw [hm]; rfl)
    obtain ⟨hc, i0, i1⟩ := mayM_iff.1 hm
    have hc3 := cur_size hc
    have hD := fun w => refDigitsW c w
    have hd3 := digN_le c
    simp only [hm] at hM
    clear hm hc
    obtain ⟨d, hd⟩ : ∃ d, digN c = d := ⟨_, rfl⟩
    have hb := Lib.hid (show moneyB c n = c ++ ⟨#[32]⟩ ++ signB n ++ bodyB d n.natAbs by unfold moneyB; rw [hd])
    rw [hd] at hD hd3
    clear hd
    have hW0 : Bx1 w (w.alloc (.cells #[.string c, .int .i64 n] 23)) (.string c) (.int .i64 n) := Bx1.new _
    obtain ⟨u, hu⟩ : ∃ u : Int, (10 : Int) ^ d = u := ⟨_, rfl⟩
    have hu0 : 1 ≤ u ∧ u ≤ 1000 := by subst hu; rcases (by omega : d = 0 ∨ d = 1 ∨ d = 2 ∨ d = 3) with rfl | rfl | rfl | rfl <;> decide
    obtain ⟨u0, u1⟩ := hu0
    have hun : ((10 ^ d : Nat) : Int) = u := by rw [← hu]; norm_cast
    have hW : ∀ m : Int, 0 ≤ m → m ≤ 1099511627776 → m.toNat = n.natAbs → (∀ w, Calls Tryd.prog 42 #[.int .i64 (m / u), .int .i64 1] w fun e w' => e = .returned (.string (decB (n.natAbs / 10 ^ d))) ∧ Below w.heap.size w w' ∧ (decB (n.natAbs / 10 ^ d)).size ≤ 13) ∧
        (∀ w, Calls Tryd.prog 42 #[.int .i64 (m % u), .int .i64 d] w fun e w' => e = .returned (.string (padB d (n.natAbs % 10 ^ d))) ∧ Below w.heap.size w w') := by
      intro m m0 m1 m2
      have hq0 : 0 ≤ m / u ∧ m / u ≤ 1099511627776 := ⟨Int.ediv_nonneg m0 (by omega), Int.le_trans (Int.ediv_le_self _ m0) m1⟩
      have r1 := Int.emod_nonneg m (show u ≠ 0 by omega)
      have r2 := Int.emod_lt_of_pos m (show 0 < u by omega)
      have e1 : (m / u).toNat = n.natAbs / 10 ^ d := by
        rw [← m2, ← hun, show m = (m.toNat : Int) by omega]
        norm_cast
      have e2 : (m % u).toNat = n.natAbs % 10 ^ d := by
        rw [← m2, ← hun, show m = (m.toNat : Int) by omega]
        norm_cast
      have h1 := fun w => whole1W (m / u) hq0.1 hq0.2 w
      have h2 := fun w => whole2W (m % u) d hd3 r1 (by omega) (by omega) w
      rw [e1] at h1
      rw [e2] at h2
      exact ⟨h1, h2⟩
    have hbb : bodyB d n.natAbs = if d = 0 then decB n.natAbs else decB (n.natAbs / 10 ^ d) ++ ⟨#[46]⟩ ++ padB d (n.natAbs % 10 ^ d) := rfl
    have hq0 : d = 0 → decB n.natAbs = decB (n.natAbs / 10 ^ d) := by intro h; subst h; rw [Nat.pow_zero, Nat.div_one]
    have hz := padB_size d (n.natAbs % 10 ^ d)
    have he2 := hb.out
    rw [hbb] at he2
    rw [← he.out] at he2
    have hsn : signB n = (if n < 0 then ⟨#[45]⟩ else ⟨#[]⟩) := rfl
    rw [hsn] at he2
    have hf : Hid (textM c n = c ++ ⟨#[32]⟩ ++ (if n < 0 then ⟨#[45]⟩ else ⟨#[]⟩) ++ (if d = 0 then decB (n.natAbs / 10 ^ d) else decB (n.natAbs / 10 ^ d) ++ ⟨#[46]⟩ ++ padB d (n.natAbs % 10 ^ d))) := by
      apply Lib.hid
      rw [he2]
      by_cases h : d = 0
      · rw [if_pos h, if_pos h, hq0 h]
      · rw [if_neg h, if_neg h]
    clear he hb he2 hbb hq0 hsn
    generalize decB (n.natAbs / 10 ^ d) = Q at *
    generalize padB d (n.natAbs % 10 ^ d) = R at *
    have hU := Lib.hid hu
    clear hu hun
    by_cases hn : n < 0
    all_goals
      first | rw [if_pos hn] at hf | rw [if_neg hn, show c ++ ⟨#[32]⟩ ++ (⟨#[]⟩ : ByteArray) = c ++ ⟨#[32]⟩ by apply ByteArray.ext; simp [ByteArray.data_append]] at hf
      have hn2 : n < 0 ∨ 0 ≤ n := by omega
      first | (have hF1 := hW (-n) (by omega) (by omega) (by omega)) | (have hF1 := hW n (by omega) (by omega) (by omega))
      clear hW
      obtain ⟨h1, h2⟩ := hF1
      go_enter Tryd.func17, Tryd.ntmps17
      go_wp2_with (go_at_call 14; (with_reducible refine (hM _).mono ?_); rintro e w1 ⟨rfl, hxb⟩; (have hWn : Bx1 w w1 (.string c) (.int .i64 n) := Bx1.next (by repeat' first | (with_reducible assumption) | (with_reducible refine Bx1.drewN ?_ _)) hxb); clear hxb; obtain ⟨hxB, hxl0, hxq0, hxq1⟩ := id hWn)
      go_quiet (fail)
      go_wp2_with (go_at_call 41; (with_reducible refine (hD _).mono ?_); rintro e w' ⟨rfl, rfl⟩)
      go_loop [6, 7] (fun v i => ∃ (k : Nat) (x : Int), k ≤ d ∧ 1 ≤ x ∧ x ≤ 1000 ∧ Hid ((10 : Int) ^ k = x) ∧ v = .int .i64 x ∧ i = .int .i64 k) (fun _ i => d - (intOf i).toNat)
      case atStart => exact ⟨0, 1, by omega, by omega, by omega, Lib.hid rfl, rfl, rfl⟩
      case round =>
        obtain ⟨k, x, hk, x0, x1, hx, rfl, rfl⟩ := hrel
        by_cases hlt : k < d
        · have hx10 : 10 * x ≤ 1000 := by
            rw [← hx.out]
            rcases (by omega : k = 0 ∨ k = 1 ∨ k = 2) with rfl | rfl | rfl <;> decide
          go_wp2
          go_round
          case rel => exact ⟨k + 1, 10 * x, by omega, by omega, hx10, Lib.hid (by rw [Int.pow_succ, hx.out]; omega), rfl, rfl⟩
          case measure => simp [intOf]; omega
        · obtain rfl : k = d := by omega
          obtain rfl : x = u := by rw [← hx.out, hU.out]
          clear hx hU hW0 hM
          have hm0 : n < 0 → 0 ≤ -n ∧ -n ≤ 1099511627776 := by omega
          first | (have hm9 := hm0 (by omega); obtain ⟨m0, m1⟩ := hm9; generalize -n = m at *) | skip
          clear hm0
          by_cases hk0 : k = 0
          · subst hk0
            rw [if_pos rfl] at hf
            go_wp2_with (go_at_call 42; (with_reducible refine (h1 _).mono ?_); rintro e w1 ⟨rfl, hxb, hq⟩; (obtain ⟨hxc, hxf⟩ := bcell hxb; have hxz := hxb.size; (try simp [Nat.succ_le_iff] at hxz); (try have hxy := Nat.lt_of_succ_lt hxz); (try have hxy2 := Nat.lt_of_succ_lt hxy); (try have hxy3 := Nat.lt_of_succ_lt hxy2); (try have hxy4 := Nat.lt_of_succ_lt hxy3); have hxB : Below w.heap.size w w1 := (by (repeat' first | exact Below.refl _ _ | (with_reducible assumption) | (with_reducible refine bAlloc (by first | omega | (simp <;> omega)) ?_) | (with_reducible refine bSet (by first | omega | (simp <;> omega)) ?_) | (with_reducible refine bDrew ?_) | (with_reducible refine bDrewN ?_) | (with_reducible refine bTrans (by with_reducible assumption) (by first | omega | (simp <;> omega)) ?_))); have hxk := below_all hxB; (try have hxl0 : w.heap.size < w1.heap.size := (by omega)); (try have hxl1 : w.heap.size + 1 < w1.heap.size := (by omega)); (try have hxl2 : w.heap.size + 2 < w1.heap.size := (by omega))))
            go_ret
            exact ⟨by rw [hf.out]; rfl, by (repeat' first | exact Below.refl _ _ | (with_reducible assumption) | (with_reducible refine bAlloc (by first | omega | (simp <;> omega)) ?_) | (with_reducible refine bSet (by first | omega | (simp <;> omega)) ?_) | (with_reducible refine bDrew ?_) | (with_reducible refine bDrewN ?_) | (with_reducible refine bTrans (by with_reducible assumption) (by first | omega | (simp <;> omega)) ?_))⟩
          · rw [if_neg hk0] at hf
            go_wp2_with first | (go_at_call 42; (with_reducible refine (h1 _).mono ?_); rintro e w1 ⟨rfl, hxb, hq⟩; (obtain ⟨hxc, hxf⟩ := bcell hxb; have hxz := hxb.size; (try simp [Nat.succ_le_iff] at hxz); (try have hxy := Nat.lt_of_succ_lt hxz); (try have hxy2 := Nat.lt_of_succ_lt hxy); (try have hxy3 := Nat.lt_of_succ_lt hxy2); (try have hxy4 := Nat.lt_of_succ_lt hxy3); have hxB : Below w.heap.size w w1 := (by (repeat' first | exact Below.refl _ _ | (with_reducible assumption) | (with_reducible refine bAlloc (by first | omega | (simp <;> omega)) ?_) | (with_reducible refine bSet (by first | omega | (simp <;> omega)) ?_) | (with_reducible refine bDrew ?_) | (with_reducible refine bDrewN ?_) | (with_reducible refine bTrans (by with_reducible assumption) (by first | omega | (simp <;> omega)) ?_))); have hxk := below_all hxB; (try have hxl0 : w.heap.size < w1.heap.size := (by omega)); (try have hxl1 : w.heap.size + 1 < w1.heap.size := (by omega)); (try have hxl2 : w.heap.size + 2 < w1.heap.size := (by omega)))) | (go_at_call 42; (with_reducible refine (h2 _).mono ?_); rintro e w1 ⟨rfl, hxb⟩; (obtain ⟨hxc, hxf⟩ := bcell hxb; have hxz := hxb.size; (try simp [Nat.succ_le_iff] at hxz); (try have hxy := Nat.lt_of_succ_lt hxz); (try have hxy2 := Nat.lt_of_succ_lt hxy); (try have hxy3 := Nat.lt_of_succ_lt hxy2); (try have hxy4 := Nat.lt_of_succ_lt hxy3); have hxB : Below w.heap.size w w1 := (by (repeat' first | exact Below.refl _ _ | (with_reducible assumption) | (with_reducible refine bAlloc (by first | omega | (simp <;> omega)) ?_) | (with_reducible refine bSet (by first | omega | (simp <;> omega)) ?_) | (with_reducible refine bDrew ?_) | (with_reducible refine bDrewN ?_) | (with_reducible refine bTrans (by with_reducible assumption) (by first | omega | (simp <;> omega)) ?_))); have hxk := below_all hxB; (try have hxl0 : w.heap.size < w1.heap.size := (by omega)); (try have hxl1 : w.heap.size + 1 < w1.heap.size := (by omega)); (try have hxl2 : w.heap.size + 2 < w1.heap.size := (by omega))))
            go_ret
            exact ⟨by rw [hf.out]; simp only [ByteArray.append_assoc]; rfl, by (repeat' first | exact Below.refl _ _ | (with_reducible assumption) | (with_reducible refine bAlloc (by first | omega | (simp <;> omega)) ?_) | (with_reducible refine bSet (by first | omega | (simp <;> omega)) ?_) | (with_reducible refine bDrew ?_) | (with_reducible refine bDrewN ?_) | (with_reducible refine bTrans (by with_reducible assumption) (by first | omega | (simp <;> omega)) ?_))⟩
end Go.Proofs.YtgnmjopifdekiaaDoor
