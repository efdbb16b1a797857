/-
  Money: what the reference reads of a money's text (plain).
-/
import Derived.Test.YtgnmjopifdekiaaDoorPv
namespace Go.Proofs.YtgnmjopifdekiaaDoor
set_option linter.unusedVariables false
set_option linter.unusedSimpArgs false

theorem moneyB_list (c : ByteArray) (n : Int) : (moneyB c n).data.toList = c.data.toList ++ [32] ++ (signB n).data.toList ++ (bodyB (digN c) n.natAbs).data.toList := by
  unfold moneyB
  simp [ByteArray.data_append]
theorem body_list (d n : Nat) : (bodyB d n).data.toList = if d = 0 then Lib.decDigits n else Lib.decDigits (n / 10 ^ d) ++ [46] ++ pad d (n % 10 ^ d) := by
  unfold bodyB
  split <;> simp [ByteArray.data_append, decB, padB]
theorem sign_list (n : Int) : (signB n).data.toList = if n < 0 then [45] else [] := by
  unfold signB
  split <;> rfl
theorem fold_body (d n : Nat) (hn : n ≤ 1099511627776) : ((bodyB d n).data.toList).foldl rdS 0 = n := by
  rw [body_list]
  split
  · exact fold_dec _ 0 n (dec_digits n) hn
  · have h1 : ([46] : List UInt8).foldl rdS ((Lib.decDigits (n / 10 ^ d)).foldl rdS 0) = (Lib.decDigits (n / 10 ^ d)).foldl rdS 0 := fold_no (by decide)
    rw [List.foldl_append, List.foldl_append, h1, ← List.foldl_append, ← zd_split d n]
    exact fold_dec _ 0 n (dec_zdl n _) hn
theorem body_first (d n : Nat) : ∃ x r, (bodyB d n).data.toList = x :: r ∧ 48 ≤ x.toNat ∧ x.toNat ≤ 57 := by
  have key : ∀ m, ∃ x r, Lib.decDigits m = x :: r ∧ 48 ≤ x.toNat ∧ x.toNat ≤ 57 := fun m => by
    have h := nd_pos m
    cases hd : Lib.decDigits m with
    | nil => rw [hd] at h; simp at h
    | cons x r =>
      have := digit_mem (c := x) m (by rw [hd]; simp)
      exact ⟨x, r, rfl, this.1, this.2⟩
  rw [body_list]
  split
  · exact key n
  · obtain ⟨x, r, h1, h2⟩ := key (n / 10 ^ d)
    rw [h1]
    exact ⟨x, _, rfl, h2⟩
theorem body_size (d n : Nat) (hd : d ≤ 3) (hn : n ≤ 1099511627776) : 1 ≤ (bodyB d n).size ∧ (bodyB d n).size ≤ 17 := by
  have h1 : ∀ m, m ≤ 1099511627776 → (Lib.decDigits m).length ≤ 13 := fun m hm => (pad_eq 13 m (by omega) (by omega)).2
  have h0 := nd_pos
  rw [len_size, body_list]
  split
  · have := h1 n hn; have := h0 n; omega
  · have := h1 (n / 10 ^ d) (Nat.le_trans (Nat.div_le_self _ _) hn)
    have := h0 (n / 10 ^ d)
    simp only [List.length_append, List.length_singleton, pad_length]
    omega
theorem read_money {c : ByteArray} {n : Int} (h : mayM c n = true) :
    5 ≤ (moneyB c n).size ∧ (moneyB c n).size ≤ 24 ∧ (moneyB c n).extract 0 3 = c ∧ rdZ (moneyB c n) ((moneyB c n).size - 4) = n.natAbs ∧ (byt (moneyB c n) 4 = 45 ↔ n < 0) := by
  obtain ⟨hc, n0, n1⟩ := mayM_iff.1 h
  have h3 : c.size = 3 := by unfold curB at hc; simp at hc; exact hc.1
  have hcl : c.data.toList.length = 3 := by rw [← len_size]; exact h3
  have hb := body_size (digN c) n.natAbs (digN_le c) (by omega)
  have hl := moneyB_list c n
  have hz : (moneyB c n).size = 4 + ((signB n).data.toList.length + (bodyB (digN c) n.natAbs).size) := by
    rw [len_size, hl, len_size (bodyB _ _)]
    simp only [List.length_append, List.length_singleton, hcl]
    omega
  have hs1 : (signB n).data.toList.length ≤ 1 := by rw [sign_list]; split <;> simp
  have hd4 : (moneyB c n).data.toList.drop 4 = (signB n).data.toList ++ (bodyB (digN c) n.natAbs).data.toList := by
    rw [hl, List.append_assoc (c.data.toList ++ [32])]
    rw [List.drop_append_of_le_length (by simp [hcl]), List.drop_eq_nil_of_le (by simp [hcl]), List.nil_append]
  refine ⟨by omega, by omega, ?_, ?_, ?_⟩
  · refine ext_byt (by rw [size_extract _ _ _ (by omega)]; omega) fun k hk => ?_
    rw [size_extract _ _ _ (by omega)] at hk
    rw [byt_extract _ _ _ _ (by omega), if_pos (by omega), Nat.zero_add]
    unfold moneyB
    rw [ByteArray.append_assoc, ByteArray.append_assoc, byt_append, if_pos (by omega)]
  · rw [rdZ_list _ _ (by omega), hd4, List.take_of_length_le (by rw [List.length_append, ← len_size (bodyB _ _)]; omega), List.foldl_append]
    have h1 : ((signB n).data.toList).foldl rdS 0 = 0 := by
      rw [sign_list]
      split
      · exact fold_no (by decide)
      · rfl
    rw [h1]
    exact fold_body _ _ (by omega)
  · obtain ⟨x, r, hx, x0, x1⟩ := body_first (digN c) n.natAbs
    have hg : byt (moneyB c n) 4 = (((moneyB c n).data.toList.drop 4)[0]'(by rw [hd4, List.length_append, ← len_size (bodyB _ _)]; omega)).toNat := by
      rw [byt_get _ 4 (by omega), List.getElem_drop]
      simp [ByteArray.getElem_eq_getElem_data]
    rw [hg]
    by_cases hn : n < 0
    · have e : (moneyB c n).data.toList.drop 4 = 45 :: (bodyB (digN c) n.natAbs).data.toList := by rw [hd4, sign_list, if_pos hn]; rfl
      simp only [e, List.getElem_cons_zero]
      simp [hn]
    · have e : (moneyB c n).data.toList.drop 4 = x :: r := by rw [hd4, sign_list, if_neg hn, hx]; rfl
      simp only [e, List.getElem_cons_zero]
      constructor
      · intro h; omega
      · intro h; exact absurd h hn
/-- what the reference's Parse answers -/
def signedZ (s : ByteArray) : Int := if byt s 4 = 45 then IntKind.i64.wrap (-rdZ s (s.size - 4)) else rdZ s (s.size - 4)
theorem parse_small {s : ByteArray} (h : s.size < 5 ∨ 24 < s.size) : parseM s = none := by
  cases hp : parseM s with
  | none => rfl
  | some q =>
    obtain ⟨c, n⟩ := q
    obtain ⟨h1, h2⟩ := parseM_iff.1 hp
    have := read_money h1
    rw [textM_of h1] at h2
    rw [h2] at this
    omega
theorem parse_read {s : ByteArray} (h5 : 5 ≤ s.size) : parseM s = if textM (s.extract 0 3) (signedZ s) = s then some (s.extract 0 3, signedZ s) else none := by
  split
  · rename_i h
    refine parseM_iff.2 ⟨?_, h⟩
    cases hm : mayM (s.extract 0 3) (signedZ s) with
    | true => rfl
    | false =>
      rw [textM_no hm] at h
      rw [← h] at h5
      exact absurd h5 (by decide)
  · rename_i h
    cases hp : parseM s with
    | none => rfl
    | some q =>
      exfalso
      obtain ⟨c, n⟩ := q
      obtain ⟨h1, h2⟩ := parseM_iff.1 hp
      obtain ⟨-, -, e1, e2, e3⟩ := read_money h1
      have h2' := h2
      rw [textM_of h1] at h2'
      rw [h2'] at e1 e2 e3
      obtain ⟨-, n0, n1⟩ := mayM_iff.1 h1
      apply h
      have hs : signedZ s = n := by
        unfold signedZ
        rw [e2]
        by_cases hn : n < 0
        · rw [if_pos (e3.2 hn), IntKind.wrap_i64]; omega
        · rw [if_neg (fun g => hn (e3.1 g))]; omega
      rw [e1, hs, h2]
end Go.Proofs.YtgnmjopifdekiaaDoor
