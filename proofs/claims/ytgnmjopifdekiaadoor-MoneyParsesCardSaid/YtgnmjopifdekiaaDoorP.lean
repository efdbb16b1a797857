/-
  Bytes of a text, ranges of signs, digits (no program in sight).
-/
import Derived.Lib.ItoaNum
import Derived.Lib.Repeat
namespace Go.Proofs.YtgnmjopifdekiaaDoor
set_option linter.unusedVariables false
set_option linter.unusedSimpArgs false

/-- the byte at place k; -1: there is none -/
def byt (s : ByteArray) (k : Nat) : Int := if h : k < s.size then (s[k].toNat : Int) else -1
theorem byt_get (s : ByteArray) (k : Nat) (h : k < s.size) : byt s k = (s[k].toNat : Int) := dif_pos h
theorem byt_out (s : ByteArray) (k : Nat) (h : ¬ k < s.size) : byt s k = -1 := dif_neg h
theorem byt_range (s : ByteArray) (k : Nat) : -1 ≤ byt s k ∧ byt s k ≤ 255 := by
  unfold byt
  split
  · rename_i h
    have := s[k].toNat_lt
    omega
  · omega
theorem ext_byt {s t : ByteArray} (hz : s.size = t.size) (h : ∀ k, k < s.size → byt s k = byt t k) : s = t := by
  apply ByteArray.ext_getElem hz
  intro i h1 h2
  have := h i h1
  rw [byt_get s i h1, byt_get t i h2] at this
  exact UInt8.toNat_inj.1 (by omega)
theorem size_extract (s : ByteArray) (a b : Nat) (h : b ≤ s.size) : (s.extract a b).size = b - a := by
  rw [ByteArray.size_extract]; omega
theorem byt_extract (s : ByteArray) (a b k : Nat) (h : b ≤ s.size) : byt (s.extract a b) k = if a + k < b then byt s (a + k) else -1 := by
  have hz := size_extract s a b h
  split
  · rename_i hk
    rw [byt_get _ _ (by omega), byt_get _ _ (by omega), ByteArray.getElem_extract]
  · rw [byt_out _ _ (by omega)]
theorem byt_append (s t : ByteArray) (k : Nat) : byt (s ++ t) k = if k < s.size then byt s k else byt t (k - s.size) := by
  have hz : (s ++ t).size = s.size + t.size := ByteArray.size_append
  split
  · rename_i hk
    rw [byt_get _ _ (by omega), byt_get _ _ hk, ByteArray.getElem_append_left hk]
  · rename_i hk
    by_cases h2 : k - s.size < t.size
    · rw [byt_get _ _ (by omega), byt_get _ _ h2, ByteArray.getElem_append_right (by omega)]
    · rw [byt_out _ _ (by omega), byt_out _ _ h2]

def lowI (c : Int) : Bool := decide (97 ≤ c) && decide (c ≤ 122)
def digI (c : Int) : Bool := decide (48 ≤ c) && decide (c ≤ 57)
def okI (c : Int) : Bool := lowI c || digI c || c == 45
/-- value -/
def val (c : Int) : Int := if lowI c then c - 96 else c - 48
/-- are the n bytes from place a on such -/
def rng (p : Int → Bool) (s : ByteArray) (a : Nat) : Nat → Bool
  | 0 => true
  | n + 1 => p (byt s a) && rng p s (a + 1) n
theorem rng_iff (p : Int → Bool) (s : ByteArray) : ∀ n a : Nat, rng p s a n = true ↔ ∀ k, a ≤ k → k < a + n → p (byt s k) = true
  | 0, a => by simp [rng]; omega
  | n + 1, a => by
    rw [rng, Bool.and_eq_true, rng_iff p s n (a + 1)]
    constructor
    · rintro ⟨h0, h⟩ k h1 h2
      by_cases e : k = a
      · rw [e]; exact h0
      · exact h k (by omega) (by omega)
    · intro h
      exact ⟨h a (by omega) (by omega), fun k h1 h2 => h k (by omega) (by omega)⟩
theorem rng_extract (p : Int → Bool) (s : ByteArray) (a b : Nat) (h : b ≤ s.size) : rng p (s.extract a b) 0 (s.extract a b).size = rng p s a (b - a) := by
  rw [Bool.eq_iff_iff, rng_iff, rng_iff, size_extract s a b h]
  constructor
  · intro hh k h1 h2
    have := hh (k - a) (by omega) (by omega)
    rw [byt_extract s a b _ h, if_pos (by omega)] at this
    rwa [show a + (k - a) = k by omega] at this
  · intro hh k h1 h2
    rw [byt_extract s a b _ h, if_pos (by omega)]
    exact hh _ (by omega) (by omega)

def headB (s : ByteArray) : Bool := decide (10 ≤ s.size) && rng lowI s 0 4 && rng digI s 4 6
/-- the first k terms of the sum -/
def part (s : ByteArray) : Nat → Int
  | 0 => 0
  | k + 1 => part s k + val (byt s k) * (k + 1)
def sumZ (s : ByteArray) : Int := if headB s then part s 10 % 97 else -1
/-- the number of the first k bytes from place a on -/
def num (s : ByteArray) (a : Nat) : Nat → Int
  | 0 => 0
  | k + 1 => num s a k * 10 + val (byt s (a + k))
def rightB (s : ByteArray) : Bool := decide (s.size = 12) && rng digI s 10 2 && sumZ s == num s 10 2
theorem num_extract (s : ByteArray) (a b : Nat) (h : b ≤ s.size) : ∀ k, k ≤ b - a → num (s.extract a b) 0 k = num s a k
  | 0, _ => rfl
  | k + 1, hk => by rw [num, num, num_extract s a b h k (by omega), Nat.zero_add, byt_extract s a b k h, if_pos (by omega)]
theorem val_dig {c : Int} (h : digI c = true) : val c = c - 48 := by
  unfold val; rw [if_neg]; unfold lowI; unfold digI at h; simp at *; omega
theorem val_low {c : Int} (h : lowI c = true) : val c = c - 96 := by unfold val; rw [if_pos h]

/-! ### digits -/
def pad : Nat → Nat → List UInt8
  | 0, _ => []
  | w + 1, n => pad w (n / 10) ++ [UInt8.ofNat (48 + n % 10)]
theorem pad_length : ∀ w n, (pad w n).length = w
  | 0, _ => rfl
  | w + 1, n => by simp [pad, pad_length w]
theorem pad_zero : ∀ w, pad w 0 = List.replicate w 48
  | 0 => rfl
  | w + 1 => by rw [pad, Nat.zero_div, pad_zero w, List.replicate_succ']; rfl
theorem pad_eq : ∀ (w n : Nat), 0 < w → n < 10 ^ w → Lib.repeatL [48] (w - (Lib.decDigits n).length) ++ Lib.decDigits n = pad w n ∧ (Lib.decDigits n).length ≤ w
  | w + 1, n, _, hn => by
    rw [Lib.decDigits]
    by_cases h : n < 10
    · rw [dif_pos h, pad, show n / 10 = 0 by omega, pad_zero, show n % 10 = n by omega]
      have := Lib.repeatL_replicate (48 : UInt8) 1 w
      simp at this ⊢
      exact this
    · rw [dif_neg h]
      have hw : 0 < w := by
        rcases Nat.eq_zero_or_pos w with rfl | h0
        · simp at hn; omega
        · exact h0
      obtain ⟨e, hl⟩ := pad_eq w (n / 10) hw (by rw [Nat.pow_succ] at hn; omega)
      refine ⟨?_, by simp; omega⟩
      rw [pad, ← e, List.length_append]
      simp
/-- the k-th digit from the left -/
theorem pad_get : ∀ (w n k : Nat) (h : k < w), (pad w n)[k]'(by rw [pad_length]; exact h) = UInt8.ofNat (48 + n / 10 ^ (w - 1 - k) % 10)
  | w + 1, n, k, h => by
    by_cases hk : k < w
    · have hx : (pad (w + 1) n)[k]'(by rw [pad_length]; exact h) = (pad w (n / 10))[k]'(by rw [pad_length]; exact hk) := by
        simp only [pad]; rw [List.getElem_append_left]
      rw [hx, pad_get w (n / 10) k hk, Nat.div_div_eq_div_mul, ← Nat.pow_succ']
      congr 5; omega
    · have : k = w := by omega
      subst this
      have hx : (pad (k + 1) n)[k]'(by rw [pad_length]; exact h) = UInt8.ofNat (48 + n % 10) := by
        simp only [pad]; rw [List.getElem_append_right (by rw [pad_length]; omega)]; simp [pad_length]
      rw [hx]; simp
def padB (w n : Nat) : ByteArray := ⟨(pad w n).toArray⟩
theorem padB_size (w n : Nat) : (padB w n).size = w := by unfold padB; simp [ByteArray.size, pad_length]
theorem padB_byt (w n k : Nat) (h : k < w) : byt (padB w n) k = 48 + (n / 10 ^ (w - 1 - k) % 10 : Nat) := by
  rw [byt_get _ _ (by rw [padB_size]; exact h)]
  have : (padB w n)[k]'(by rw [padB_size]; exact h) = (pad w n)[k]'(by rw [pad_length]; exact h) := by
    unfold padB; rfl
  rw [this, pad_get w n k h]
  have : n / 10 ^ (w - 1 - k) % 10 < 10 := Nat.mod_lt _ (by omega)
  simp [UInt8.toNat_ofNat]
  omega
end Go.Proofs.YtgnmjopifdekiaaDoor
