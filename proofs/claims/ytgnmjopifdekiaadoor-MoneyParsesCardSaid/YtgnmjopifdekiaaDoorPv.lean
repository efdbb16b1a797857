/-
  Money: what the reference reads (plain).
-/
import Derived.Test.YtgnmjopifdekiaaDoorPr
namespace Go.Proofs.YtgnmjopifdekiaaDoor
set_option linter.unusedVariables false
set_option linter.unusedSimpArgs false

/-- one byte more -/
def rdS (a : Int) (b : UInt8) : Int := if digI (b.toNat : Int) then IntKind.i64.wrap (IntKind.i64.wrap (IntKind.i64.wrap (10 * a) + b.toNat) - 48) else a
/-- the first k bytes from place 4 on -/
def rdZ (s : ByteArray) : Nat → Int
  | 0 => 0
  | k + 1 => if digI (byt s (4 + k)) then IntKind.i64.wrap (IntKind.i64.wrap (IntKind.i64.wrap (10 * rdZ s k) + byt s (4 + k)) - 48) else rdZ s k
theorem rdZ_list (s : ByteArray) : ∀ k, 4 + k ≤ s.size → rdZ s k = ((s.data.toList.drop 4).take k).foldl rdS 0
  | 0, _ => rfl
  | k + 1, h => by
    have ih := rdZ_list s k (by omega)
    have hl : k < (s.data.toList.drop 4).length := by rw [List.length_drop, ← len_size]; omega
    rw [List.take_succ_eq_append_getElem hl, List.foldl_append, ← ih]
    have e : ((s.data.toList.drop 4)[k].toNat : Int) = byt s (4 + k) := by
      rw [byt_get s (4 + k) (by omega), List.getElem_drop]
      simp [ByteArray.getElem_eq_getElem_data]
    simp only [List.foldl_cons, List.foldl_nil]
    rw [rdZ]
    unfold rdS
    rw [e]
theorem dec_mono : ∀ (r : List UInt8) (a m : Nat), Lib.decFrom a r = some m → a ≤ m := by
  intro r
  induction r with
  | nil => intro a m h; rw [Lib.decFrom] at h; injection h with h; omega
  | cons b r ih =>
    intro a m h
    rw [Lib.decFrom] at h
    cases hd : Lib.digitVal b with
    | none => rw [hd] at h; cases h
    | some d =>
      rw [hd] at h
      have := ih _ _ h
      omega
theorem fold_dec : ∀ (l : List UInt8) (acc n : Nat), Lib.decFrom acc l = some n → n ≤ 1099511627776 → l.foldl rdS (acc : Int) = n
  | [], acc, n, h, _ => by
    rw [Lib.decFrom] at h
    injection h with h
    rw [h]; rfl
  | c :: r, acc, n, h, hn => by
    rw [Lib.decFrom] at h
    cases hd : Lib.digitVal c with
    | none => rw [hd] at h; cases h
    | some d =>
      rw [hd] at h
      unfold Lib.digitVal at hd
      by_cases hc : 48 ≤ c.toNat ∧ c.toNat ≤ 57
      · rw [if_pos hc] at hd
        injection hd with hd
        subst hd
        have h1 := dec_mono r _ n h
        rw [List.foldl_cons, ← fold_dec r _ n h hn]
        congr 1
        unfold rdS
        rw [if_pos (by unfold digI; simp; omega)]
        simp only [IntKind.wrap_i64]
        omega
      · rw [if_neg hc] at hd; cases hd
theorem fold_no {l : List UInt8} {a : Int} {b : UInt8} (h : digI (b.toNat : Int) = false) : (b :: l).foldl rdS a = l.foldl rdS a := by
  rw [List.foldl_cons]
  unfold rdS
  rw [h]
  rfl
end Go.Proofs.YtgnmjopifdekiaaDoor
