/-
  Marks: the plain laws.
-/
import Derived.Test.YtjohlbpahaklkaaDoorF
namespace Go.Proofs.YtjohlbpahaklkaaDoor
set_option linter.unusedVariables false
set_option linter.unusedSimpArgs false

/-- the sum of the first ten, written out -/
def sum10 (s : ByteArray) : Int := (byt s 0 - 96) * 1 + (byt s 1 - 96) * 2 + (byt s 2 - 96) * 3 + (byt s 3 - 96) * 4 + (byt s 4 - 48) * 5 + (byt s 5 - 48) * 6 + (byt s 6 - 48) * 7 + (byt s 7 - 48) * 8 + (byt s 8 - 48) * 9 + (byt s 9 - 48) * 10
def Low (c : Int) : Prop := 97 ≤ c ∧ c ≤ 122
def Dig (c : Int) : Prop := 48 ≤ c ∧ c ≤ 57
theorem lowI_iff (c : Int) : lowI c = true ↔ Low c := by unfold lowI Low; simp
theorem digI_iff (c : Int) : digI c = true ↔ Dig c := by unfold digI Dig; simp
/-- four letters, six digits -/
def Head (s : ByteArray) : Prop := (Low (byt s 0) ∧ Low (byt s 1) ∧ Low (byt s 2) ∧ Low (byt s 3)) ∧ (Dig (byt s 4) ∧ Dig (byt s 5) ∧ Dig (byt s 6) ∧ Dig (byt s 7) ∧ Dig (byt s 8) ∧ Dig (byt s 9))
theorem rng_low4 (s : ByteArray) : rng lowI s 0 4 = true ↔ Low (byt s 0) ∧ Low (byt s 1) ∧ Low (byt s 2) ∧ Low (byt s 3) := by
  simp only [rng, Bool.and_eq_true, lowI_iff, Bool.and_true]
theorem rng_dig6 (s : ByteArray) : rng digI s 4 6 = true ↔ Dig (byt s 4) ∧ Dig (byt s 5) ∧ Dig (byt s 6) ∧ Dig (byt s 7) ∧ Dig (byt s 8) ∧ Dig (byt s 9) := by
  simp only [rng, Bool.and_eq_true, digI_iff, Bool.and_true]
theorem rng_dig2 (s : ByteArray) : rng digI s 10 2 = true ↔ Dig (byt s 10) ∧ Dig (byt s 11) := by
  simp only [rng, Bool.and_eq_true, digI_iff, Bool.and_true]
theorem head_iff (s : ByteArray) : headB s = true ↔ 10 ≤ s.size ∧ Head s := by
  unfold headB Head
  simp only [Bool.and_eq_true, decide_eq_true_eq, rng_low4, rng_dig6, and_assoc]
theorem part_sum {s : ByteArray} (h : Head s) : part s 10 = sum10 s := by
  obtain ⟨⟨a0, a1, a2, a3⟩, b4, b5, b6, b7, b8, b9⟩ := h
  simp only [part, val_low ((lowI_iff _).2 a0), val_low ((lowI_iff _).2 a1), val_low ((lowI_iff _).2 a2), val_low ((lowI_iff _).2 a3), val_dig ((digI_iff _).2 b4), val_dig ((digI_iff _).2 b5), val_dig ((digI_iff _).2 b6), val_dig ((digI_iff _).2 b7), val_dig ((digI_iff _).2 b8), val_dig ((digI_iff _).2 b9)]
  unfold sum10
  omega
theorem sumZ_head {s : ByteArray} (hz : 10 ≤ s.size) (h : Head s) : sumZ s = sum10 s % 97 := by
  unfold sumZ
  rw [if_pos ((head_iff s).2 ⟨hz, h⟩), part_sum h]
theorem right_iff (s : ByteArray) : rightB s = true ↔ s.size = 12 ∧ Head s ∧ Dig (byt s 10) ∧ Dig (byt s 11) ∧ sum10 s % 97 = (byt s 10 - 48) * 10 + (byt s 11 - 48) := by
  constructor
  · intro h
    have hz := right_size h
    have hh := (head_iff s).1 (right_head h)
    have hc := (rng_dig2 s).1 (right_chk h)
    have hs := right_sum h
    rw [sumZ_head hh.1 hh.2] at hs
    simp only [num, Nat.add_zero, Nat.reduceAdd, val_dig ((digI_iff _).2 hc.1), val_dig ((digI_iff _).2 hc.2)] at hs
    exact ⟨hz, hh.2, hc.1, hc.2, by omega⟩
  · rintro ⟨hz, hh, h10, h11, hs⟩
    unfold rightB
    rw [sumZ_head (by omega) hh, (rng_dig2 s).2 ⟨h10, h11⟩]
    simp only [num, Nat.add_zero, Nat.reduceAdd, val_dig ((digI_iff _).2 h10), val_dig ((digI_iff _).2 h11)]
    simp [hz]
    omega
theorem sum_swap {s t : ByteArray} (a : Nat) (ha : a ≤ 8) (h1 : byt t a = byt s (a + 1)) (h2 : byt t (a + 1) = byt s a) (h3 : ∀ k, k < 12 → k ≠ a → k ≠ a + 1 → byt t k = byt s k) : sum10 t - sum10 s = byt s a - byt s (a + 1) := by
  match a, ha with
  | 0, _ | 1, _ | 2, _ | 3, _ | 4, _ | 5, _ | 6, _ | 7, _ | 8, _ =>
    all_goals
      simp only [Nat.reduceAdd] at h1 h2 ⊢
      (try have g0 := h3 0 (by decide) (by decide) (by decide))
      (try have g1 := h3 1 (by decide) (by decide) (by decide))
      (try have g2 := h3 2 (by decide) (by decide) (by decide))
      (try have g3 := h3 3 (by decide) (by decide) (by decide))
      (try have g4 := h3 4 (by decide) (by decide) (by decide))
      (try have g5 := h3 5 (by decide) (by decide) (by decide))
      (try have g6 := h3 6 (by decide) (by decide) (by decide))
      (try have g7 := h3 7 (by decide) (by decide) (by decide))
      (try have g8 := h3 8 (by decide) (by decide) (by decide))
      (try have g9 := h3 9 (by decide) (by decide) (by decide))
      clear h3
      unfold sum10
      omega
theorem sum_one {s t : ByteArray} (a : Nat) (ha : a ≤ 9) (h3 : ∀ k, k < 12 → k ≠ a → byt t k = byt s k) : sum10 t - sum10 s = (byt t a - byt s a) * (a + 1) := by
  match a, ha with
  | 0, _ | 1, _ | 2, _ | 3, _ | 4, _ | 5, _ | 6, _ | 7, _ | 8, _ | 9, _ =>
    all_goals
      (try have g0 := h3 0 (by decide) (by decide))
      (try have g1 := h3 1 (by decide) (by decide))
      (try have g2 := h3 2 (by decide) (by decide))
      (try have g3 := h3 3 (by decide) (by decide))
      (try have g4 := h3 4 (by decide) (by decide))
      (try have g5 := h3 5 (by decide) (by decide))
      (try have g6 := h3 6 (by decide) (by decide))
      (try have g7 := h3 7 (by decide) (by decide))
      (try have g8 := h3 8 (by decide) (by decide))
      (try have g9 := h3 9 (by decide) (by decide))
      clear h3
      unfold sum10
      omega
theorem mod_near {X Y c d : Int} (h1 : X % 97 = c) (h2 : Y % 97 = c) (h : Y - X = d) (hd1 : -97 < d) (hd2 : d < 97) : d = 0 := by omega
/-- two neighbours changed about -/
theorem swap_law {s t : ByteArray} (h : rightB s = true) (a : Nat) (ha : a ≤ 10) (ht : t.size = 12) (h1 : byt t a = byt s (a + 1)) (h2 : byt t (a + 1) = byt s a) (h3 : ∀ k, k < 12 → k ≠ a → k ≠ a + 1 → byt t k = byt s k) : rightB t = decide (s = t) := by
  have hz := right_size h
  by_cases he : byt s a = byt s (a + 1)
  · have e : s = t := ext_byt (by omega) fun k hk => by
      by_cases k1 : k = a
      · rw [k1, h1, he]
      · by_cases k2 : k = a + 1
        · rw [k2, h2, he]
        · exact (h3 k (by omega) k1 k2).symm
    rw [← e, h]; simp
  · have e : s ≠ t := fun e => by rw [← e] at h1; exact he h1
    rw [decide_eq_false e]
    cases hr : rightB t with
    | false => rfl
    | true =>
      exfalso
      have sl := right_low h
      have sd := right_dig h
      have tl := right_low hr
      have td := right_dig hr
      obtain ⟨-, -, b10, b11, e1⟩ := (right_iff s).1 h
      obtain ⟨-, -, d10, d11, e2⟩ := (right_iff t).1 hr
      unfold Dig at b10 b11 d10 d11
      by_cases h8 : a ≤ 8
      · have hd := sum_swap a h8 h1 h2 h3
        have bnd : -97 < byt s a - byt s (a + 1) ∧ byt s a - byt s (a + 1) < 97 := by
          by_cases ha3 : a < 3
          · have u := (lowI_iff _).1 (head_low sl a (by omega))
            have v := (lowI_iff _).1 (head_low sl (a + 1) (by omega))
            unfold Low at u v
            omega
          · by_cases ha4 : a = 3
            · exfalso
              have u := (lowI_iff _).1 (head_low tl a (by omega))
              have v := (digI_iff _).1 (head_dig sd (a + 1) (by omega) (by omega))
              rw [h1] at u
              unfold Low at u
              unfold Dig at v
              omega
            · have u := (digI_iff _).1 (head_dig sd a (by omega) (by omega))
              have v := (digI_iff _).1 (head_dig sd (a + 1) (by omega) (by omega))
              unfold Dig at u v
              omega
        by_cases h8' : a + 1 = 10
        · omega
        · rw [h3 10 (by omega) (by omega) (by omega), h3 11 (by omega) (by omega) (by omega)] at e2
          exact he (by have := mod_near e1 e2 hd bnd.1 bnd.2; omega)
      · by_cases h9 : a = 9
        · subst h9
          have g : sum10 t - sum10 s = (byt s 10 - byt s 9) * 10 := by
            have g0 := h3 0 (by decide) (by decide) (by decide)
            have g1 := h3 1 (by decide) (by decide) (by decide)
            have g2 := h3 2 (by decide) (by decide) (by decide)
            have g3 := h3 3 (by decide) (by decide) (by decide)
            have g4 := h3 4 (by decide) (by decide) (by decide)
            have g5 := h3 5 (by decide) (by decide) (by decide)
            have g6 := h3 6 (by decide) (by decide) (by decide)
            have g7 := h3 7 (by decide) (by decide) (by decide)
            have g8 := h3 8 (by decide) (by decide) (by decide)
            simp only [Nat.reduceAdd] at h1 h2
            unfold sum10
            clear h3 e1 e2
            omega
          have g11 := h3 11 (by decide) (by decide) (by decide)
          have u := (digI_iff _).1 (head_dig sd 9 (by omega) (by omega))
          unfold Dig at u
          simp only [Nat.reduceAdd] at h2 he
          rw [h2, g11] at e2
          generalize sum10 s = X at *
          generalize sum10 t = Y at *
          clear h3
          generalize byt s 9 = x9 at *
          generalize byt s 10 = x10 at *
          generalize byt s 11 = x11 at *
          clear h1 h2 g11
          omega
        · obtain rfl : a = 10 := by omega
          have g : sum10 t = sum10 s := by
            unfold sum10
            rw [h3 0 (by decide) (by decide) (by decide), h3 1 (by decide) (by decide) (by decide), h3 2 (by decide) (by decide) (by decide), h3 3 (by decide) (by decide) (by decide), h3 4 (by decide) (by decide) (by decide), h3 5 (by decide) (by decide) (by decide), h3 6 (by decide) (by decide) (by decide), h3 7 (by decide) (by decide) (by decide), h3 8 (by decide) (by decide) (by decide), h3 9 (by decide) (by decide) (by decide)]
          simp only [Nat.reduceAdd] at h1 h2 he
          rw [g, h1, h2] at e2
          omega

theorem num_pad (w n : Nat) (hn : n < 10 ^ w) : ∀ k, k ≤ w → num (padB w n) 0 k = (n / 10 ^ (w - k) : Nat)
  | 0, _ => by rw [num, Nat.sub_zero, Nat.div_eq_of_lt hn]; rfl
  | k + 1, hk => by
    have hd : digI (byt (padB w n) (0 + k)) = true := (rng_iff digI _ w 0).1 (rng_pad w n) _ (by omega) (by omega)
    rw [num, num_pad w n hn k (by omega), val_dig hd, Nat.zero_add, padB_byt w n k (by omega)]
    have e : w - k = (w - 1 - k) + 1 := by omega
    rw [show w - (k + 1) = w - 1 - k by omega, e, Nat.pow_succ, ← Nat.div_div_eq_div_mul]
    generalize n / 10 ^ (w - 1 - k) = q
    omega
theorem num_append_right (s t : ByteArray) (a : Nat) (h : s.size ≤ a) : ∀ k, num (s ++ t) a k = num t (a - s.size) k
  | 0 => rfl
  | k + 1 => by rw [num, num, num_append_right s t a h k, byt_append, if_neg (by omega), show a + k - s.size = a - s.size + k by omega]
theorem num_append_left (s t : ByteArray) (a : Nat) : ∀ k, a + k ≤ s.size → num (s ++ t) a k = num s a k
  | 0, _ => rfl
  | k + 1, h => by rw [num, num, num_append_left s t a k (by omega), byt_append, if_pos (by omega)]
section
variable {o : ByteArray} {n : Nat} (hz : o.size = 4) (hl : rng lowI o 0 4 = true) (hn : n < 1000000)
include hz
theorem make_size : (makeB o n).size = 12 := by unfold makeB; rw [ByteArray.size_append, ByteArray.size_append, padB_size, padB_size, hz]
theorem make_front (k : Nat) (hk : k < 10) : byt (makeB o n) k = byt (o ++ padB 6 n) k := by
  unfold makeB
  rw [byt_append, if_pos (by rw [ByteArray.size_append, padB_size, hz]; exact hk)]
theorem make_ten : (o ++ padB 6 n).size = 10 := by rw [ByteArray.size_append, padB_size, hz]
include hl
theorem make_head : headB (makeB o n) = true := by
  have h := (head_iff _).1 (head_make o n hz hl)
  refine (head_iff _).2 ⟨by rw [make_size hz]; omega, ?_⟩
  have h2 := h.2
  unfold Head at h2 ⊢
  simpa only [make_front hz _ (show 0 < 10 by omega), make_front hz _ (show 1 < 10 by omega), make_front hz _ (show 2 < 10 by omega), make_front hz _ (show 3 < 10 by omega), make_front hz _ (show 4 < 10 by omega), make_front hz _ (show 5 < 10 by omega), make_front hz _ (show 6 < 10 by omega), make_front hz _ (show 7 < 10 by omega), make_front hz _ (show 8 < 10 by omega), make_front hz _ (show 9 < 10 by omega)] using h2
theorem make_sum : sumZ (makeB o n) = sumZ (o ++ padB 6 n) := by
  have h1 := (head_iff _).1 (head_make o n hz hl)
  have h2 := (head_iff _).1 (make_head (n := n) hz hl)
  rw [sumZ_head h1.1 h1.2, sumZ_head h2.1 h2.2]
  unfold sum10
  simp only [make_front hz _ (show 0 < 10 by omega), make_front hz _ (show 1 < 10 by omega), make_front hz _ (show 2 < 10 by omega), make_front hz _ (show 3 < 10 by omega), make_front hz _ (show 4 < 10 by omega), make_front hz _ (show 5 < 10 by omega), make_front hz _ (show 6 < 10 by omega), make_front hz _ (show 7 < 10 by omega), make_front hz _ (show 8 < 10 by omega), make_front hz _ (show 9 < 10 by omega)]
theorem make_right : rightB (makeB o n) = true := by
  have hr := sum_range (head_make o n hz hl)
  unfold rightB
  rw [make_size hz, make_sum hz hl]
  have h1 : rng digI (makeB o n) 10 2 = true := by
    unfold makeB
    rw [rng_append_right _ _ _ _ _ (by rw [make_ten hz]; omega), make_ten hz, Nat.sub_self, rng_pad]
  have h2 : num (makeB o n) 10 2 = sumZ (o ++ padB 6 n) := by
    unfold makeB
    rw [num_append_right _ _ _ (by rw [make_ten hz]; omega), make_ten hz, Nat.sub_self, num_pad 2 _ (by omega) 2 (by omega)]
    simp
    omega
  rw [h1, h2]
  simp
theorem make_owner : ownerB (makeB o n) = o := by
  unfold ownerB
  rw [if_pos (make_right hz hl)]
  refine ext_byt (by rw [size_extract _ _ _ (by rw [make_size hz]; omega)]; omega) fun k hk => ?_
  rw [size_extract _ _ _ (by rw [make_size hz]; omega)] at hk
  rw [byt_extract _ _ _ _ (by rw [make_size hz]; omega), if_pos (by omega), Nat.zero_add, make_front hz k (by omega), byt_append, if_pos (by omega)]
include hn
theorem make_number : numberZ (makeB o n) = n := by
  unfold numberZ
  rw [if_pos (make_right hz hl)]
  unfold makeB
  rw [num_append_left _ _ _ _ (by rw [make_ten hz]; omega), num_append_right _ _ _ (by omega), hz, Nat.sub_self, num_pad 6 n (by omega) 6 (by omega)]
  simp
omit hn
theorem make_name : nameI (makeB o n) = true := by
  have hh := make_head (n := n) hz hl
  have hc := right_chk (make_right (n := n) hz hl)
  unfold headB at hh
  simp only [Bool.and_eq_true] at hh
  unfold nameI
  rw [make_size hz]
  have : rng okI (makeB o n) 0 12 = true := by
    rw [rng_iff]
    intro k _ hk
    unfold okI
    by_cases h4 : k < 4
    · rw [head_low hh.1.2 k h4]; rfl
    · by_cases h10 : k < 10
      · rw [head_dig hh.2 k (by omega) h10]; simp
      · rw [(rng_iff digI _ 2 10).1 hc k (by omega) (by omega)]; simp
  rw [this]; rfl
end
theorem make_inj {a b : ByteArray} {n m : Nat} (ha : a.size = 4 ∧ rng lowI a 0 4 = true) (hb : b.size = 4 ∧ rng lowI b 0 4 = true) (hn : n < 1000000) (hm : m < 1000000) : makeB a n = makeB b m ↔ a = b ∧ n = m := by
  constructor
  · intro e
    have h1 := make_owner (n := n) ha.1 ha.2
    have h2 := make_number ha.1 ha.2 hn
    rw [e] at h1 h2
    rw [make_owner hb.1 hb.2] at h1
    rw [make_number hb.1 hb.2 hm] at h2
    exact ⟨h1.symm, by omega⟩
  · rintro ⟨rfl, rfl⟩; rfl
end Go.Proofs.YtjohlbpahaklkaaDoor
