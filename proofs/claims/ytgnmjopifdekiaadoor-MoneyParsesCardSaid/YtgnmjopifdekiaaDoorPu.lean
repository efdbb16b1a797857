/-
  Money: whether a text is three great letters, rune by rune (plain).
-/
import Derived.Test.YtgnmjopifdekiaaDoorPt
import Derived.Shelf.GgClosure.StringsIndexFunc
namespace Go.Proofs.YtgnmjopifdekiaaDoor
set_option linter.unusedVariables false
set_option linter.unusedSimpArgs false

def notUp (r : Nat) : Bool := decide (r < 65) || decide (90 < r)
theorem byt_get! (s : ByteArray) (i : Nat) (h : i < s.size) : byt s i = ((s.get! i).toNat : Int) := by
  rw [byt_get s i h]
  have : s.get! i = s[i] := by
    show s.data[i]! = s.data[i]
    exact getElem!_pos s.data i h
  rw [this]
theorem decode_low {s : ByteArray} {i : Nat} (h : (s.get! i).toNat < 128) : Utf8.decode s i = ((s.get! i).toNat, 1) := by
  unfold Utf8.decode
  simp only [Nat.add_zero]
  rw [if_pos h]
theorem decode_high {s : ByteArray} {i : Nat} (h : ¬ (s.get! i).toNat < 128) : 128 ≤ (Utf8.decode s i).1 := by
  unfold Utf8.decode
  simp only [Nat.add_zero]
  rw [if_neg h]
  repeat' split
  all_goals first
    | (show 128 ≤ Utf8.runeError; decide)
    | (simp at *; omega)
    | (rename_i hh; have := (Bool.and_eq_true _ _ ▸ hh).1; simp at this; simp; omega)
theorem idx_iff (s : ByteArray) : ∀ (f pos : Nat), s.size ≤ pos + f → (0 ≤ Lib.idxFuncFrom notUp true s f pos ↔ ∃ k, pos ≤ k ∧ k < s.size ∧ upI (byt s k) = false)
  | 0, pos, h => by
    rw [Lib.idxFuncFrom]
    constructor
    · intro h; exact absurd h (by decide)
    · rintro ⟨k, h1, h2, -⟩; omega
  | f + 1, pos, h => by
    rw [Lib.idxFuncFrom]
    by_cases hp : pos < s.size
    · rw [if_pos hp]
      have hb := byt_get! s pos hp
      by_cases hu : upI (byt s pos) = true
      · have hu' := hu
        rw [hb] at hu'
        unfold upI at hu'
        simp at hu'
        rw [decode_low (by omega), if_neg (by unfold notUp; simp; omega), idx_iff s f (pos + 1) (by omega)]
        constructor
        · rintro ⟨k, h1, h2, h3⟩; exact ⟨k, by omega, h2, h3⟩
        · rintro ⟨k, h1, h2, h3⟩
          refine ⟨k, ?_, h2, h3⟩
          by_cases e : k = pos
          · subst e; rw [hu] at h3; cases h3
          · omega
      · have hu2 : upI (byt s pos) = false := by simpa using hu
        have hn : notUp (Utf8.decode s pos).1 = true := by
          by_cases hl : (s.get! pos).toNat < 128
          · rw [decode_low hl]
            rw [hb] at hu2
            unfold upI at hu2
            unfold notUp
            simp at hu2 ⊢
            omega
          · have := decode_high hl
            unfold notUp
            simp
            omega
        rw [if_pos hn]
        exact ⟨fun _ => ⟨pos, Nat.le_refl _, hp, hu2⟩, fun _ => by omega⟩
    · rw [if_neg hp]
      constructor
      · intro h; exact absurd h (by decide)
      · rintro ⟨k, h1, h2, -⟩; omega
theorem idx_cur (s : ByteArray) : (decide (s.size = 3) && !decide (0 ≤ Lib.idxFunc notUp true s)) = curB s := by
  unfold curB
  by_cases hz : s.size = 3
  · rw [decide_eq_true hz, Bool.true_and, Bool.true_and]
    have h := idx_iff s s.size 0 (by omega)
    rw [show Lib.idxFunc notUp true s = Lib.idxFuncFrom notUp true s s.size 0 from rfl]
    cases hr : rng upI s 0 3 with
    | true =>
      rw [decide_eq_false]
      · rfl
      · rw [h]
        rintro ⟨k, -, h2, h3⟩
        rw [(rng_iff upI s 3 0).1 hr k (by omega) (by omega)] at h3
        cases h3
    | false =>
      rw [decide_eq_true]
      · rfl
      · rw [h]
        have hr2 : ¬ rng upI s 0 3 = true := by rw [hr]; decide
        rw [rng_iff] at hr2
        have : ∃ k, k < 3 ∧ upI (byt s k) = false := by
          rcases (by
            by_cases a : upI (byt s 0) = false
            · exact .inl a
            · by_cases b : upI (byt s 1) = false
              · exact .inr (.inl b)
              · exact .inr (.inr (by
                  by_cases c : upI (byt s 2) = false
                  · exact c
                  · exfalso
                    refine hr2 fun k _ hk => ?_
                    rcases (by omega : k = 0 ∨ k = 1 ∨ k = 2) with rfl | rfl | rfl
                    · simpa using a
                    · simpa using b
                    · simpa using c)) : upI (byt s 0) = false ∨ upI (byt s 1) = false ∨ upI (byt s 2) = false) with a | a | a
          · exact ⟨0, by omega, a⟩
          · exact ⟨1, by omega, a⟩
          · exact ⟨2, by omega, a⟩
        obtain ⟨k, h1, h2⟩ := this
        exact ⟨k, by omega, by omega, h2⟩
  · rw [decide_eq_false hz]
    rfl
end Go.Proofs.YtgnmjopifdekiaaDoor
