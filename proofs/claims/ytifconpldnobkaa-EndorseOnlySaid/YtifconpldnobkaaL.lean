/-
  Plain laws of chains: the program's answer is the reference's; one endorsement more.
-/
import Derived.Test.YtifconpldnobkaaH
namespace Go.Proofs.Ytifconpldnobkaa

/-- the chain ahead of place i -/
def stAt (first : ByteArray) (l : List En) (i : Nat) : Ch := if h : 0 < i ∧ i - 1 < l.length then onP l[i - 1] else ⟨first, false, false, 0⟩
theorem right_kind {x : En} (h : rightB x = true) : (x.kind = 0 ∨ x.kind = 1 ∨ x.kind = 2) ∧ 0 ≤ x.day := by
  simp only [rightB, Bool.and_eq_true, decide_eq_true_eq] at h
  obtain ⟨⟨⟨_, hd⟩, _⟩, hk⟩ := h
  refine ⟨?_, hd⟩
  split at hk
  · rename_i h1; exact .inr (.inl h1)
  · simp at hk; omega
theorem wrong_eq (first : ByteArray) (l : List En) (i : Nat) (hi : i < l.length) (hp : ∀ h : 0 < i, rightB (l[i - 1]'(by omega)) = true) : wrongR first l i hi = wrongP (stAt first l i) l[i] := by
  unfold wrongR wrongP stAt
  by_cases hr : rightB l[i] = true
  · have hd := (right_kind hr).2
    simp only [hr, if_true]
    by_cases h0 : i = 0
    · subst h0
      simp
      by_cases hf : l[0].frm.toList = first.toList
      · simp [hf]; omega
      · simp [hf]
    · have hk := (right_kind (hp (by omega))).1
      rw [if_neg h0, dif_pos (by omega)]
      simp only [onP]
      rcases hk with hk | hk | hk <;> simp [hk] <;> rfl
  · simp [hr]
theorem chk_fol (first : ByteArray) (l : List En) : ∀ (n i : Nat), n = l.length - i → i ≤ l.length → (∀ (h : 0 < i) (h' : i - 1 < l.length), rightB l[i - 1] = true) →
    chkR first l i = ((fol (stAt first l i) i (l.drop i)).1.holder, (fol (stAt first l i) i (l.drop i)).2)
  | 0, i, hn, hi, hp => by
    have : i = l.length := by omega
    subst this
    rw [chkR, dif_neg (by omega), List.drop_length]
    simp only [fol, stAt]
    by_cases h0 : 0 < l.length
    · rw [dif_pos h0, dif_pos (by omega)]; simp [onP]
    · rw [dif_neg h0, dif_neg (by omega)]
      have : l.length = 0 := by omega
      simp [this]
  | n + 1, i, hn, hi, hp => by
    have hlt : i < l.length := by omega
    rw [chkR, dif_pos hlt, wrong_eq first l i hlt (fun h => hp h (by omega)), List.drop_eq_getElem_cons hlt]
    simp only [fol]
    by_cases hw : wrongP (stAt first l i) l[i] = 0
    · rw [if_pos hw, if_pos hw]
      have hr : rightB l[i] = true := by
        unfold wrongP at hw
        by_cases h : rightB l[i] = true
        · exact h
        · rw [if_neg h] at hw; omega
      rw [chk_fol first l n (i + 1) (by omega) (by omega) (fun _ _ => by simpa using hr)]
      have : stAt first l (i + 1) = onP l[i] := by unfold stAt; rw [dif_pos (by simp; omega)]; simp
      rw [this]
    · rw [if_neg hw, if_neg hw]; rfl
theorem check_eq (first : ByteArray) (l : List En) : checkR first l = check first l := by
  unfold checkR check follow
  by_cases hn : nameB first = true
  · rw [if_pos hn, if_pos hn, chk_fol first l l.length 0 (by omega) (by omega) (fun h _ => absurd h (by omega))]
    simp [stAt]
  · rw [if_neg hn, if_neg hn]; rfl
/-- the state behind a right chain -/
theorem fol_ok (l : List En) : ∀ (c : Ch) (i : Nat), (fol c i l).2.2 = 0 → (fol c i l).2.1 = i + l.length ∧ (fol c i l).1 = (if h : 0 < l.length then onP l[l.length - 1] else c) := by
  induction l with
  | nil => intro c i _; simp [fol]
  | cons x r ih =>
    intro c i h
    simp only [fol] at h ⊢
    by_cases hw : wrongP c x = 0
    · simp only [hw, if_true] at h ⊢
      obtain ⟨a, b⟩ := ih _ _ h
      refine ⟨by simp; omega, ?_⟩
      rw [b]
      cases r with
      | nil => simp
      | cons y r => simp
    · simp only [hw, if_false] at h
theorem fol_snoc (l : List En) : ∀ (c : Ch) (i : Nat) (x : En), fol c i (l ++ [x]) = if (fol c i l).2.2 = 0 then (if wrongP (fol c i l).1 x = 0 then (onP x, (fol c i l).2.1 + 1, 0) else (noCh, (fol c i l).2.1, wrongP (fol c i l).1 x)) else fol c i l := by
  induction l with
  | nil => intro c i x; simp [fol]; rfl
  | cons y r ih =>
    intro c i x
    simp only [List.cons_append, fol]
    by_cases hw : wrongP c y = 0
    · simp only [hw, if_true, ih]
    · simp only [hw, if_false]
theorem follow_snoc (first : ByteArray) (l : List En) (x : En) : follow first (l ++ [x]) = if (follow first l).2.2 = 0 then (if wrongP (follow first l).1 x = 0 then (onP x, (follow first l).2.1 + 1, 0) else (noCh, (follow first l).2.1, wrongP (follow first l).1 x)) else follow first l := by
  unfold follow
  by_cases hn : nameB first = true
  · simp only [hn, if_true]; exact fol_snoc l _ 0 x
  · simp [hn]
/-- a chain that is wrong has no holder, and breaks within -/
theorem fol_bad (l : List En) : ∀ (c : Ch) (i : Nat), (fol c i l).2.2 ≠ 0 → (fol c i l).1 = noCh ∧ (fol c i l).2.1 < i + l.length := by
  induction l with
  | nil => intro c i h; simp [fol] at h
  | cons y r ih =>
    intro c i h
    simp only [fol] at h ⊢
    by_cases hw : wrongP c y = 0
    · simp only [hw, if_true] at h ⊢
      obtain ⟨a, b⟩ := ih _ _ h
      exact ⟨a, by simp; omega⟩
    · simp [hw]
theorem follow_bad (first : ByteArray) (l : List En) (h : (follow first l).2.2 ≠ 0) : (follow first l).1 = noCh ∧ (follow first l).2.1 ≤ l.length := by
  unfold follow at h ⊢
  by_cases hn : nameB first = true
  · simp only [hn, if_true] at h ⊢
    have := fol_bad l _ 0 h
    exact ⟨this.1, by omega⟩
  · simp [hn]
theorem follow_ok (first : ByteArray) (l : List En) (h : (follow first l).2.2 = 0) : (follow first l).2.1 = l.length ∧ (follow first l).1 = (if h : 0 < l.length then onP l[l.length - 1] else ⟨first, false, false, 0⟩) := by
  unfold follow at h ⊢
  by_cases hn : nameB first = true
  · simp only [hn, if_true] at h ⊢
    have := fol_ok l _ 0 h
    exact ⟨by omega, this.2⟩
  · simp [hn] at h
end Go.Proofs.Ytifconpldnobkaa
