/-
  Money: what is printed is parsed (plain).
-/
import Derived.Test.YtgnmjopifdekiaaDoorPt
import Derived.Lib.ParseIntB
import Derived.Lib.Atoi
namespace Go.Proofs.YtgnmjopifdekiaaDoor
set_option linter.unusedVariables false
set_option linter.unusedSimpArgs false

theorem index_first (x : UInt8) (t : List UInt8) : ∀ l : List UInt8, x ∉ l → Lib.index (l ++ x :: t) [x] = l.length
  | [], _ => by simp [Lib.index, List.isPrefixOf]
  | b :: l, h => by
    simp only [List.mem_cons, not_or] at h
    have ih := index_first x t l h.2
    rw [List.cons_append, Lib.index]
    have e : ([x] : List UInt8).isPrefixOf (b :: (l ++ x :: t)) = false := by
      simp [List.isPrefixOf]
      exact h.1
    rw [e, ih]
    have : ((l.length : Int) == -1) = false := by rw [beq_eq_false_iff_ne]; omega
    rw [this]
    simp
theorem index_none (x : UInt8) : ∀ l : List UInt8, x ∉ l → Lib.index l [x] = -1
  | [], _ => rfl
  | b :: l, h => by
    simp only [List.mem_cons, not_or] at h
    have ih := index_none x l h.2
    rw [Lib.index]
    have e : ([x] : List UInt8).isPrefixOf (b :: l) = false := by
      simp [List.isPrefixOf]
      exact h.1
    rw [e, ih]
    rfl
theorem cut_first (x : UInt8) (l t : List UInt8) (h : x ∉ l) : Lib.cut (l ++ x :: t) [x] = (l, t, true) := by
  unfold Lib.cut
  rw [index_first x t l h, if_pos (by omega)]
  simp
theorem cut_none (x : UInt8) (l : List UInt8) (h : x ∉ l) : Lib.cut l [x] = (l, [], false) := by
  unfold Lib.cut
  rw [index_none x l h, if_neg (by omega)]
theorem count_none (x : UInt8) (l : List UInt8) (h : x ∉ l) : Lib.count l [x] = 0 := by
  unfold Lib.count Lib.countFrom
  rw [index_none x l h]
  rfl
theorem count_some (x : UInt8) (l t : List UInt8) (h : x ∉ l) : 1 ≤ Lib.count (l ++ x :: t) [x] := by
  unfold Lib.count Lib.countFrom
  rw [index_first x t l h, if_neg (by simp)]
  omega
theorem replace_first (x : UInt8) (l t : List UInt8) (h : x ∉ l) : Lib.replace (l ++ x :: t) [x] [] 1 = l ++ t := by
  have hc := count_some x l t h
  unfold Lib.replace
  rw [if_neg (by simp)]
  have hn : Lib.replaceNum (l ++ x :: t) [x] 1 = 1 := by
    unfold Lib.replaceNum
    split
    · omega
    · rfl
  rw [hn, Lib.replaceK_hit [x] [] 0 _ l.length (index_first x t l h), Lib.replaceK]
  simp
theorem replace_none (x : UInt8) (l : List UInt8) (h : x ∉ l) : Lib.replace l [x] [] 1 = l := by
  have hc := count_none x l h
  unfold Lib.replace
  rw [if_neg (by simp)]
  have hn : Lib.replaceNum l [x] 1 = 0 := by
    unfold Lib.replaceNum
    rw [hc, if_pos (by omega)]
  rw [hn, Lib.replaceK]
/-- the number of digits -/
theorem parse_digits : ∀ (l : List UInt8) (acc n : Nat), Lib.decFrom acc l = some n → n ≤ 1099511627776 → Lib.parseUintM (2 ^ 64 - 1) acc l = .ok n
  | [], acc, n, h, _ => by
    rw [Lib.decFrom] at h
    injection h with h
    rw [h]; rfl
  | c :: r, acc, n, h, hn => by
    have hge : ∀ (r : List UInt8) (a m : Nat), Lib.decFrom a r = some m → a ≤ m := by
      intro r
      induction r with
      | nil => intro a m h; rw [Lib.decFrom] at h; injection h with h; omega
      | cons b r ih =>
        intro a m h
        rw [Lib.decFrom] at h
        cases hd : Lib.digitVal b with
        | none => rw [hd] at h; cases h
        | some d =>
          rw [hd] at h
          have := ih _ _ h
          omega
    rw [Lib.decFrom] at h
    cases hd : Lib.digitVal c with
    | none => rw [hd] at h; cases h
    | some d =>
      rw [hd] at h
      unfold Lib.digitVal at hd
      by_cases hc : 48 ≤ c.toNat ∧ c.toNat ≤ 57
      · rw [if_pos hc] at hd
        injection hd with hd
        subst hd
        have h1 := hge r _ n h
        have hM : (2 : Nat) ^ 64 - 1 = 18446744073709551615 := by decide
        rw [Lib.parseUintM, if_pos hc, if_neg (by omega), if_neg (by omega)]
        exact parse_digits r _ n h hn
      · rw [if_neg hc] at hd; cases hd
theorem dec_snoc (l : List UInt8) : ∀ (acc n d : Nat), Lib.decFrom acc l = some n → d < 10 → Lib.decFrom acc (l ++ [UInt8.ofNat (48 + d)]) = some (n * 10 + d) := by
  induction l with
  | nil =>
    intro acc n d h hd
    rw [Lib.decFrom] at h
    injection h with h
    subst h
    show Lib.decFrom acc [UInt8.ofNat (48 + d)] = _
    have : (UInt8.ofNat (48 + d)).toNat = 48 + d := by simp; omega
    rw [Lib.decFrom, Lib.digitVal, this, if_pos (by omega)]
    show Lib.decFrom (acc * 10 + (48 + d - 48)) [] = _
    rw [Lib.decFrom]
    congr 1
    omega
  | cons b l ih =>
    intro acc n d h hd
    rw [Lib.decFrom] at h
    rw [List.cons_append, Lib.decFrom]
    cases hv : Lib.digitVal b with
    | none => rw [hv] at h; cases h
    | some v =>
      rw [hv] at h
      exact ih _ _ _ h hd
theorem dec_digits (n : Nat) : Lib.decFrom 0 (Lib.decDigits n) = some n := by
  induction n using Nat.strongRecOn with
  | _ n ih =>
    by_cases h : n < 10
    · rw [Lib.decDigits_one h]
      have := dec_snoc [] 0 0 n rfl h
      simpa using this
    · have hD : Lib.decDigits n = Lib.decDigits (n / 10) ++ [UInt8.ofNat (48 + n % 10)] := by
        conv => lhs; rw [Lib.decDigits, dif_neg h]
      rw [hD]
      have := dec_snoc (Lib.decDigits (n / 10)) 0 (n / 10) (n % 10) (ih _ (by omega)) (by omega)
      rw [this]
      congr 1
      omega
theorem dec_zdl (n j : Nat) : Lib.decFrom 0 (zdl n j) = some n := by
  unfold zdl
  induction j with
  | zero => exact dec_digits n
  | succ j ih =>
    rw [List.replicate_succ, List.cons_append, Lib.decFrom]
    exact ih
theorem digit_mem {c : UInt8} : ∀ n : Nat, c ∈ Lib.decDigits n → 48 ≤ c.toNat ∧ c.toNat ≤ 57 := by
  intro n
  induction n using Nat.strongRecOn with
  | _ n ih =>
    intro h
    rw [Lib.decDigits] at h
    by_cases hn : n < 10
    · rw [dif_pos hn, List.mem_singleton] at h
      subst h
      simp
      omega
    · rw [dif_neg hn, List.mem_append, List.mem_singleton] at h
      rcases h with h | h
      · exact ih _ (by omega) h
      · subst h
        simp
        omega
theorem zdl_mem {c : UInt8} {n j : Nat} (h : c ∈ zdl n j) : 48 ≤ c.toNat ∧ c.toNat ≤ 57 := by
  unfold zdl at h
  rw [List.mem_append] at h
  rcases h with h | h
  · have := List.eq_of_mem_replicate h
    subst this
    decide
  · exact digit_mem n h
theorem zdl_ne (n j : Nat) : zdl n j ≠ [] := by
  unfold zdl
  intro h
  have h1 := congrArg List.length h
  have h2 := nd_pos n
  rw [List.length_append] at h1
  simp only [List.length_nil] at h1
  omega
/-- sign and digits, parsed -/
theorem parse_signed (n : Int) (j : Nat) (h : -1099511627776 ≤ n ∧ n ≤ 1099511627776) : Lib.parseIntB 64 ((signB n).data.toList ++ zdl n.natAbs j) = .ok n := by
  have hz := dec_zdl n.natAbs j
  have hp := parse_digits _ 0 _ hz (by omega)
  have hne := zdl_ne n.natAbs j
  have hmem : ∀ c ∈ zdl n.natAbs j, 48 ≤ c.toNat ∧ c.toNat ≤ 57 := fun c hc => zdl_mem hc
  generalize zdl n.natAbs j = Z at *
  have hU : Lib.parseUintB 64 Z = .ok n.natAbs := by
    unfold Lib.parseUintB
    rw [if_neg hne]
    exact hp
  unfold signB
  by_cases hn : n < 0
  · rw [if_pos hn]
    show Lib.parseIntB 64 (45 :: Z) = _
    unfold Lib.parseIntB
    have e45 : (45 : UInt8).toNat = 45 := rfl
    simp only [e45, or_true, if_true]
    rw [hU]
    have e1 : ¬ (2 : Nat) ^ (64 - 1) < n.natAbs := by
      have : (2 : Nat) ^ (64 - 1) = 9223372036854775808 := by decide
      omega
    have e2 : -(n.natAbs : Int) = n := by omega
    simp [e1, e2]
  · rw [if_neg hn]
    show Lib.parseIntB 64 Z = _
    cases Z with
    | nil => exact absurd rfl hne
    | cons c r =>
      obtain ⟨c0, c1⟩ := hmem c List.mem_cons_self
      unfold Lib.parseIntB
      have e1 : ¬ c.toNat = 43 := by omega
      have e2 : ¬ c.toNat = 45 := by omega
      have e3 : ¬ (2 : Nat) ^ (64 - 1) ≤ n.natAbs := by
        have : (2 : Nat) ^ (64 - 1) = 9223372036854775808 := by decide
        omega
      have e4 : (n.natAbs : Int) = n := by omega
      simp only [e1, e2, or_self, if_false, hU]
      simp [e3, e4]
end Go.Proofs.YtgnmjopifdekiaaDoor
