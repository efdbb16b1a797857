/-
  Plain laws: who may give it on.
-/
import Derived.Test.YtifconpldnobkaaL
namespace Go.Proofs.Ytifconpldnobkaa

theorem fol_right (l : List En) : ∀ (c : Ch) (i : Nat), (fol c i l).2.2 = 0 → ∀ x ∈ l, rightB x = true := by
  induction l with
  | nil => intro c i _ x hx; simp at hx
  | cons y r ih =>
    intro c i h x hx
    simp only [fol] at h
    by_cases hw : wrongP c y = 0
    · simp only [hw, if_true] at h
      rcases List.mem_cons.1 hx with rfl | hx
      · unfold wrongP at hw
        by_cases hr : rightB x = true
        · exact hr
        · rw [if_neg hr] at hw; omega
      · exact ih _ _ h x hx
    · simp only [hw, if_false] at h
theorem follow_right (first : ByteArray) (l : List En) (h : (follow first l).2.2 = 0) : nameB first = true ∧ ∀ x ∈ l, rightB x = true := by
  unfold follow at h
  by_cases hn : nameB first = true
  · simp only [hn, if_true] at h
    exact ⟨hn, fol_right l _ _ h⟩
  · simp [hn] at h
theorem name_ne {s : ByteArray} (h : nameB s = true) : s.toList.isEmpty = false := by
  simp only [nameB, Bool.and_eq_true, decide_eq_true_eq] at h
  rw [ByteArray.toList_eq, List.isEmpty_eq_false_iff]
  intro h'
  have : s.size = 0 := by
    have : s.data.toList.length = 0 := by rw [h']; rfl
    simpa using this
  omega
/-- of a right chain's state: it is in blank just where it has no holder; its day is a day -/
theorem state_facts (first : ByteArray) (l : List En) (h : (follow first l).2.2 = 0) :
    (follow first l).1.blank = (follow first l).1.holder.toList.isEmpty ∧ (follow first l).1.ended = (if h : 0 < l.length then l[l.length - 1].kind == 2 else false) ∧ (follow first l).1.day ≤ 1048576 := by
  obtain ⟨hn, hr⟩ := follow_right first l h
  rw [(follow_ok first l h).2]
  by_cases h0 : 0 < l.length
  · rw [dif_pos h0, dif_pos h0]
    have hx := hr l[l.length - 1] (List.getElem_mem _)
    generalize l[l.length - 1] = x at hx
    have hk := (right_kind hx).1
    simp only [rightB, Bool.and_eq_true, decide_eq_true_eq] at hx
    obtain ⟨⟨⟨_, _⟩, hd⟩, hx⟩ := hx
    refine ⟨?_, rfl, hd⟩
    simp only [onP]
    rcases hk with hk | hk | hk
    · rw [if_neg (by omega)] at hx
      simp only [Bool.and_eq_true] at hx
      rw [name_ne hx.1.2, hk]; rfl
    · rw [if_pos hk] at hx
      rw [hx, hk]; rfl
    · rw [if_neg (by omega)] at hx
      simp only [Bool.and_eq_true] at hx
      rw [name_ne hx.1.2, hk]; rfl
  · rw [dif_neg h0, dif_neg h0]
    exact ⟨(name_ne hn).symm, rfl, (by decide : (0 : Int) ≤ 1048576)⟩
theorem may_eq (first who : ByteArray) (l : List En) : mayR first who l = may first who l := by
  unfold mayR may
  rw [check_eq]
  by_cases h : (follow first l).2.2 = 0
  · obtain ⟨a, b, _⟩ := state_facts first l h
    simp only [check]
    rw [a, b]
    have : ((follow first l).1.holder.toList == who.toList) = (who.toList == (follow first l).1.holder.toList) := by rw [Bool.eq_iff_iff]; simp only [beq_iff_eq]; exact eq_comm
    rw [this]
  · have : ((follow first l).2.2 == 0) = false := by simpa using h
    simp [check, this]
theorem may_snoc (first who to : ByteArray) (l : List En) (h1 : nameB to = true) (h2 : (to.toList == who.toList) = false) (h3 : nameB who = true) :
    (may first who l = true → check first (l ++ [⟨who, to, 0, 1048576⟩]) = (to, l.length + 1, 0)) ∧
    (may first who l = false → (check first (l ++ [⟨who, to, 0, 1048576⟩])).2.2 ≠ 0 ∧ (check first (l ++ [⟨who, to, 0, 1048576⟩])).1 = nil ∧ (check first (l ++ [⟨who, to, 0, 1048576⟩])).2.1 ≤ l.length) := by
  have hr : rightB ⟨who, to, 0, 1048576⟩ = true := by simp [rightB, h1, h2, h3]
  unfold may check
  rw [follow_snoc]
  by_cases h : (follow first l).2.2 = 0
  · obtain ⟨a, b, d⟩ := state_facts first l h
    have hl := (follow_ok first l h).1
    have hday : ¬ (1048576 : Int) < (follow first l).1.day := by omega
    simp only [h, if_true, h3]
    have hw : wrongP (follow first l).1 ⟨who, to, 0, 1048576⟩ = if (follow first l).1.ended then 9 else if !(follow first l).1.blank && !(who.toList == (follow first l).1.holder.toList) then 8 else 0 := by
      unfold wrongP
      rw [if_pos hr]
      simp only [hday, if_false]
    rw [hw]
    cases (follow first l).1.ended <;> cases (follow first l).1.blank <;> cases (who.toList == (follow first l).1.holder.toList) <;> simp [onP, hl, noCh]
  · obtain ⟨a, b⟩ := follow_bad first l h
    have he : ((follow first l).2.2 == 0) = false := by simpa using h
    simp only [h, if_false, he]
    simp [h, a, b, noCh]
end Go.Proofs.Ytifconpldnobkaa
