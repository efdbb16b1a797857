/-
  The walks: Cut.
-/
import Derived.Test.YtifconpldnobkaaE
namespace Go.Proofs.Ytifconpldnobkaa
open Go.RowKit

def RetE (w : World) (l : List En) (e : Ending) (w' : World) : Prop := ∃ A c, e = .returned (.slice A l.length c) ∧ RowE w' w'.heap.size A l ∧ Below w.heap.size w w' ∧ (A = none → l.length = 0 ∧ c = 0)
theorem elemE : ElemT Try.prog 22 31 4 48 := ⟨by kernel_rfl, by omega, by kernel_rfl⟩
def clamp (n : Int) (len : Nat) : Nat := min n.toNat len

theorem RowE.of_own {w : World} {base : Nat} {e : TypeId} {v : Value} {l : List En} (h : w.ownsRow base e 4 v l.length (l.flatMap En.cells)) (hl : l.length ≤ 9223372036854775807) (hs : ∀ i (h : i < l.length), l[i].frm.size ≤ maxLen ∧ l[i].to.size ≤ maxLen) :
    ∃ A c, v = .slice A l.length c ∧ RowE w w.heap.size A l := by
  obtain ⟨A, c, e, hr⟩ := Rd.of_own h
  exact ⟨A, c, e, hl, hs, hr⟩

theorem flatE_one (l : List En) : ∀ u ∈ l.flatMap En.cells, u.oneCell' = true := by
  intro u hu
  obtain ⟨x, _, hx⟩ := List.mem_flatMap.1 hu
  simp [En.cells] at hx
  rcases hx with rfl | rfl | rfl | rfl <;> rfl
set_option maxHeartbeats 1000000 in
theorem cut9 (A : Option Addr) (c : Nat) (l : List En) (n : Int) (w : World) (hr : RowE w w.heap.size A l) (hA : A = none → l.length = 0 ∧ c = 0) (hc : l.length ≤ c) (h30 : l.length ≤ 1000) :
    Calls Try.prog 9 #[.slice A l.length c, .int .i64 n] w (RetE w (l.take (clamp n l.length))) := by
  have hl := hr.1
  have hk : clamp n l.length ≤ l.length := by unfold clamp; omega
  have hfin : ∀ (v : Value) (w' : World) (K : Nat), K = clamp n l.length → w'.ownsRow w.heap.size 31 4 v (0 + K) ([] ++ (l.take K).flatMap En.cells) → w.grownBy w' none → RetE w (l.take (clamp n l.length)) (.returned v) w' := by
    rintro v w' _ rfl ho hg
    have ht := hr.take _ hk
    have e : (l.take (clamp n l.length)).length = clamp n l.length := by rw [List.length_take]; omega
    rw [Nat.zero_add, List.nil_append] at ho
    obtain ⟨A', c', rfl, hR⟩ := RowE.of_own (l := l.take (clamp n l.length)) (by rw [e]; exact ho) ht.1 ht.2.1
    refine ⟨A', c', by rw [e], hR, bGrown hg (Nat.le_refl _) (by simp) (Below.refl _ _), ?_⟩
    rintro rfl
    obtain ⟨_, ⟨h, h'⟩ | ⟨g, cap, cur, h, _⟩⟩ := ho
    · simp at h; exact ⟨by omega, h.2⟩
    · simp at h
  have h0 := Lib.hid hfin
  have ht := (hr.take _ hk).2.2
  have e : (l.take (clamp n l.length)).length = clamp n l.length := by rw [List.length_take]; omega
  rw [e] at ht
  have HA := Lib.hid hA
  clear hA hfin e hr
  by_cases h1 : n < 0
  · have e0 : clamp n l.length = 0 := by unfold clamp; omega
    rw [e0] at ht
    have E0 := Lib.hid e0
    clear e0 hk
    go_enter Try.func9, Try.ntmps9
    go_wp2_with (at_builtin; refine wpList_app elemE rfl (.const (.slice none 0 0)) (.tmp 11) rfl w.heap.size (.slice none 0 0) 0 [] rfl (World.ownsRow_nil _ _ _ _) A 0 c _ rfl ht ?_ (flatE_one _) ?_ ?_ (Nat.le_refl _) ?_; (intro h; have a := HA.out h; exact ⟨by omega, a.2⟩); (unfold maxLen; omega); omega; (intro v' w' ho hg _; have hfin := Lib.hid (h0.out v' w' 0 E0.out.symm ho hg); clear ho hg))
    all_goals (go_ret; exact hfin.out)
  · by_cases h2 : n ≤ l.length
    · have e0 : clamp n l.length = n.toNat := by unfold clamp; omega
      obtain ⟨k, rfl⟩ := Int.eq_ofNat_of_zero_le (Int.not_lt.1 h1)
      rw [Int.toNat_natCast] at e0
      rw [e0] at ht
      have E0 := Lib.hid e0
      clear e0 hk
      go_enter Try.func9, Try.ntmps9
      go_wp2_with (at_builtin; refine wpList_app elemE rfl (.const (.slice none 0 0)) (.tmp 11) rfl w.heap.size (.slice none 0 0) 0 [] rfl (World.ownsRow_nil _ _ _ _) A k c _ rfl ht ?_ (flatE_one _) ?_ ?_ (Nat.le_refl _) ?_; (intro h; have a := HA.out h; exact ⟨by omega, a.2⟩); (unfold maxLen; omega); omega; (intro v' w' ho hg _; have hfin := Lib.hid (h0.out v' w' k E0.out.symm ho hg); clear ho hg))
      all_goals (go_ret; exact hfin.out)
    · have e0 : clamp n l.length = l.length := by unfold clamp; omega
      rw [e0] at ht
      have E0 := Lib.hid e0
      clear e0 hk
      go_enter Try.func9, Try.ntmps9
      go_wp2_with (at_builtin; refine wpList_app elemE rfl (.const (.slice none 0 0)) (.tmp 11) rfl w.heap.size (.slice none 0 0) 0 [] rfl (World.ownsRow_nil _ _ _ _) A l.length c _ rfl ht ?_ (flatE_one _) ?_ ?_ (Nat.le_refl _) ?_; (intro h; have a := HA.out h; exact ⟨by omega, a.2⟩); (unfold maxLen; omega); omega; (intro v' w' ho hg _; have hfin := Lib.hid (h0.out v' w' l.length E0.out.symm ho hg); clear ho hg))
      all_goals (go_ret; exact hfin.out)
end Go.Proofs.Ytifconpldnobkaa
