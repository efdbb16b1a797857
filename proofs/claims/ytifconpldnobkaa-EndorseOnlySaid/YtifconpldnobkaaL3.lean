/-
  Plain laws: no further.
-/
import Derived.Test.YtifconpldnobkaaL2
namespace Go.Proofs.Ytifconpldnobkaa

theorem only_snoc (first to who : ByteArray) (l : List En) (more : En) (h0 : (check first l).2.2 = 0) (h1 : (check first l).1.toList.isEmpty = false) (h2 : nameB to = true) (h3 : (to.toList == (check first l).1.toList) = false)
    (h4 : ∀ h : 0 < l.length, (l[l.length - 1].kind == 2) = false) :
    let x : En := ⟨(check first l).1, to, 2, 1048576⟩
    (check first l).2.1 = l.length ∧ check first (l ++ [x]) = (to, l.length + 1, 0) ∧ may first to (l ++ [x]) = false ∧ may first who (l ++ [x]) = false ∧
    (check first ((l ++ [x]) ++ [more])).1 = ⟨#[]⟩ ∧ (check first ((l ++ [x]) ++ [more])).2.1 = l.length + 1 ∧ ((check first ((l ++ [x]) ++ [more])).2.2 = 9 ∨ (check first ((l ++ [x]) ++ [more])).2.2 = 2) := by
  intro x
  have h0' : (follow first l).2.2 = 0 := h0
  obtain ⟨a, b, d⟩ := state_facts first l h0'
  have hh : (check first l).1 = (follow first l).1.holder := rfl
  have hl := (follow_ok first l h0').1
  have hbl : (follow first l).1.blank = false := by rw [a, ← hh, h1]
  have hen : (follow first l).1.ended = false := by
    rw [b]; split
    · rename_i hp; exact h4 hp
    · rfl
  have hnm : nameB (check first l).1 = true := by
    rw [hh, (follow_ok first l h0').2]
    obtain ⟨hn, hr⟩ := follow_right first l h0'
    by_cases hp : 0 < l.length
    · rw [dif_pos hp]
      have hx := hr l[l.length - 1] (List.getElem_mem _)
      have hk := (right_kind hx).1
      have hb1 : (follow first l).1.blank = (l[l.length - 1].kind == 1) := by rw [(follow_ok first l h0').2, dif_pos hp]; rfl
      rw [hbl] at hb1
      generalize l[l.length - 1] = y at *
      have hk1 : ¬ y.kind = 1 := by intro e; rw [e] at hb1; simp at hb1
      simp only [rightB, Bool.and_eq_true] at hx
      rw [if_neg hk1] at hx
      simp only [Bool.and_eq_true] at hx
      exact hx.2.1.2
    · rw [dif_neg hp]; exact hn
  have hr : rightB x = true := by
    simp only [rightB, x, hnm, h2, h3]; rfl
  have hw : wrongP (follow first l).1 x = 0 := by
    unfold wrongP
    rw [if_pos hr, hen, hbl]
    have hd : ¬ x.day < (follow first l).1.day := by simp only [x]; omega
    rw [if_neg hd]
    simp [x, hh]
  have hf : follow first (l ++ [x]) = (onP x, l.length + 1, 0) := by
    rw [follow_snoc, if_pos h0', if_pos hw, hl]
  have hoe : (onP x).ended = true := rfl
  refine ⟨hl, ?_, ?_, ?_, ?_⟩
  · unfold check; rw [hf]; rfl
  · unfold may; rw [hf]; simp [hoe]
  · unfold may; rw [hf]; simp [hoe]
  · have hw2 : wrongP (onP x) more = if rightB more then 9 else 2 := by unfold wrongP; simp [hoe]
    unfold check
    rw [follow_snoc, hf]
    simp only [if_true, hw2]
    by_cases hm : rightB more = true
    · simp [hm, noCh, nil]
    · simp [hm, noCh, nil]
end Go.Proofs.Ytifconpldnobkaa
