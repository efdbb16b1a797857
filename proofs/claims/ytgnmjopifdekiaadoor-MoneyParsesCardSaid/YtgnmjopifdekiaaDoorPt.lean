/-
  Money: texts (plain).
-/
import Derived.Test.YtgnmjopifdekiaaDoorP2
import Derived.Lib.IndexMore
import Derived.Lib.Replace
namespace Go.Proofs.YtgnmjopifdekiaaDoor
set_option linter.unusedVariables false
set_option linter.unusedSimpArgs false

def upI (c : Int) : Bool := decide (65 ≤ c) && decide (c ≤ 90)
/-- is a text a currency -/
def curB (s : ByteArray) : Bool := decide (s.size = 3) && rng upI s 0 3
def inB (n : Int) : Bool := decide (-1099511627776 ≤ n) && decide (n ≤ 1099511627776)
def mayM (c : ByteArray) (n : Int) : Bool := curB c && inB n
theorem mayM_iff {c : ByteArray} {n : Int} : mayM c n = true ↔ curB c = true ∧ -1099511627776 ≤ n ∧ n ≤ 1099511627776 := by
  unfold mayM inB
  simp
/-- how many digits stand behind the point -/
def digN (s : ByteArray) : Nat :=
  if s = ⟨#[74, 80, 89]⟩ ∨ s = ⟨#[75, 82, 87]⟩ then 0
  else if s = ⟨#[66, 72, 68]⟩ ∨ s = ⟨#[75, 87, 68]⟩ ∨ s = ⟨#[84, 78, 68]⟩ then 3 else 2
theorem digN_le (s : ByteArray) : digN s ≤ 3 := by unfold digN; split; omega; split <;> omega
def zdl (n j : Nat) : List UInt8 := List.replicate j 48 ++ Lib.decDigits n
theorem nd_pos (n : Nat) : 0 < (Lib.decDigits n).length := by
  rw [Lib.decDigits]
  split <;> simp
/-- noughts ahead, parted in two -/
theorem zd_split : ∀ (d n : Nat), zdl n (d + 1 - (Lib.decDigits n).length) = Lib.decDigits (n / 10 ^ d) ++ pad d (n % 10 ^ d)
  | 0, n => by
    have := nd_pos n
    rw [show 0 + 1 - (Lib.decDigits n).length = 0 by omega]
    simp [zdl, pad]
  | d + 1, n => by
    by_cases h : n < 10
    · rw [Lib.decDigits_one h]
      have e1 : n / 10 ^ (d + 1) = 0 := Nat.div_eq_of_lt (by have : 10 ^ 1 ≤ 10 ^ (d + 1) := Nat.pow_le_pow_right (by omega) (by omega); omega)
      have e2 : n % 10 ^ (d + 1) = n := Nat.mod_eq_of_lt (by have : 10 ^ 1 ≤ 10 ^ (d + 1) := Nat.pow_le_pow_right (by omega) (by omega); omega)
      rw [e1, e2, pad, Nat.div_eq_of_lt h, pad_zero, Lib.decDigits_one (by omega), Nat.mod_eq_of_lt h]
      simp only [List.length_cons, List.length_nil]
      unfold zdl
      rw [Lib.decDigits_one h, show d + 1 + 1 - (0 + 1) = d + 1 by omega, List.replicate_succ]
      rfl
    · have ih := zd_split d (n / 10)
      have hD : Lib.decDigits n = Lib.decDigits (n / 10) ++ [UInt8.ofNat (48 + n % 10)] := by
        conv => lhs; rw [Lib.decDigits, dif_neg h]
      have hl : (Lib.decDigits n).length = (Lib.decDigits (n / 10)).length + 1 := by rw [hD]; simp
      unfold zdl at ih ⊢
      rw [hl, show d + 1 + 1 - ((Lib.decDigits (n / 10)).length + 1) = d + 1 - (Lib.decDigits (n / 10)).length by omega, hD, ← List.append_assoc, ih, pad]
      have e1 : n / 10 / 10 ^ d = n / 10 ^ (d + 1) := by rw [Nat.div_div_eq_div_mul, Nat.pow_succ, Nat.mul_comm]
      have e2 : n % 10 ^ (d + 1) / 10 = n / 10 % 10 ^ d := by
        rw [Nat.pow_succ, Nat.mul_comm, Nat.mod_mul, Nat.add_mul_div_left _ _ (by omega), Nat.div_eq_of_lt (Nat.mod_lt _ (by omega)), Nat.zero_add]
      have e3 : n % 10 ^ (d + 1) % 10 = n % 10 := by
        rw [Nat.pow_succ, Nat.mul_comm, Nat.mod_mul_right_mod]
      rw [e1, e2, e3, List.append_assoc]
/-- of a number of so many digits -/
theorem nd_of {n k : Nat} (h1 : n < 10 ^ k) (h0 : 0 < k) (h : k = 1 ∨ 10 ^ (k - 1) ≤ n) : padB k n = ⟨(Lib.decDigits n).toArray⟩ := by
  obtain ⟨e, hl⟩ := pad_eq k n h0 h1
  have hk : k ≤ (Lib.decDigits n).length := by
    rcases h with h | h
    · have := nd_pos n; omega
    · rcases Nat.lt_or_ge (Lib.decDigits n).length k with hlt | hge
      · exfalso
        have : ∀ m : Nat, m < 10 ^ (Lib.decDigits m).length := by
          intro m
          induction m using Nat.strongRecOn with
          | _ m ih =>
            rw [Lib.decDigits]
            by_cases h : m < 10
            · rw [dif_pos h]; simpa using h
            · rw [dif_neg h, List.length_append, List.length_singleton, Nat.pow_succ]
              have := ih (m / 10) (by omega)
              omega
        have h2 := this n
        have h3 : 10 ^ (Lib.decDigits n).length ≤ 10 ^ (k - 1) := Nat.pow_le_pow_right (by omega) (by omega)
        omega
      · exact hge
  unfold padB
  rw [← e, show k - (Lib.decDigits n).length = 0 by omega]
  rfl
def decB (n : Nat) : ByteArray := ⟨(Lib.decDigits n).toArray⟩
/-- the figures of an amount from 0 on -/
def bodyB (d n : Nat) : ByteArray := if d = 0 then decB n else decB (n / 10 ^ d) ++ ⟨#[46]⟩ ++ padB d (n % 10 ^ d)
def signB (n : Int) : ByteArray := if n < 0 then ⟨#[45]⟩ else ⟨#[]⟩
def moneyB (c : ByteArray) (n : Int) : ByteArray := c ++ ⟨#[32]⟩ ++ signB n ++ bodyB (digN c) n.natAbs
/-- the text -/
def textM (c : ByteArray) (n : Int) : ByteArray := if mayM c n then moneyB c n else ⟨#[]⟩
end Go.Proofs.YtgnmjopifdekiaaDoor
