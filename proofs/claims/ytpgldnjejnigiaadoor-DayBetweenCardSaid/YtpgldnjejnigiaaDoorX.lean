/-
  Days: the reference's walk is the program's (plain).
-/
import Derived.Test.YtpgldnjejnigiaaDoorV
namespace Go.Proofs.YtpgldnjejnigiaaDoor
open Go.RowKit

theorem al_congr {r r' : Int → Bool} (step : Int) (h : ∀ d, isD d = true → r d = r' d) : ∀ (k : Nat) (d n : Int), alF r step k d n = alF r' step k d n
  | 0, _, _ => rfl
  | k + 1, d, n => by
    rw [alF, alF]
    cases hd : isD d with
    | false => rfl
    | true => simp only [h d hd, al_congr step h k]
theorem rise_bound {l : List Int} {m : Int} (h : riseF l m 0 = true) : ∀ x ∈ l, 0 ≤ x ∧ x ≤ m := by
  intro x hx
  obtain ⟨k, hk, rfl⟩ := List.getElem_of_mem hx
  unfold riseF at h
  rw [List.all_eq_true] at h
  have := h k (by rw [List.mem_range'_1]; omega)
  unfold badAt at this
  rw [getD_get l k hk] at this
  simp at this
  omega
theorem may_rest {c : Cal} (h : mayB c = true) : c.rest.Nodup ∧ (∀ x ∈ c.rest, 0 ≤ x ∧ x < 7) ∧ c.hol.Nodup ∧ (∀ x ∈ c.hol, 0 ≤ x) := by
  unfold mayB riseB at h
  simp only [Bool.and_eq_true] at h
  refine ⟨(rise_pair _ _ h.1.1).imp fun h => Int.ne_of_lt h, fun x hx => ?_, (rise_pair _ _ h.2.1).imp fun h => Int.ne_of_lt h, fun x hx => (rise_bound h.2.1 x hx).1⟩
  have := rise_bound h.1.1 x hx
  omega
theorem own_of {c : Cal} (h : mayB c = true) : ownC c = c := by unfold ownC; rw [h]; rfl
theorem rests_own {c : Cal} {d : Int} (h : isD d = true) : restsB c d = restsC (ownC c) d := by unfold restsB; rw [h]; rfl
theorem wk_pos (r : Int → Bool) : ∀ n : Nat, wk r n = 0 → ∀ k : Nat, k < n → r k = true
  | 0, _, k, hk => absurd hk (by omega)
  | n + 1, h, k, hk => by
    rw [wk] at h
    by_cases e : k = n
    · subst e
      cases hr : r k with
      | true => rfl
      | false => rw [hr] at h; simp at h
    · exact wk_pos r n (by omega) k (by omega)
theorem rests_all {c : Cal} (hm : mayB c = true) (h7 : c.rest.length = 7) : ∀ d, isD d = true → restsC (ownC c) d = true := by
  intro d hd
  obtain ⟨a, b, -, -⟩ := may_rest hm
  have h := wk_week c.rest a b
  obtain ⟨d0, -⟩ := isD_iff.1 hd
  have := wk_pos (hasI c.rest) 7 (by omega) (d % 7).toNat (by omega)
  rw [Int.toNat_of_nonneg (by omega)] at this
  rw [own_of hm]
  unfold restsC
  rw [Int.tmod_eq_emod_of_nonneg d0, this]
  rfl
theorem walk_along (c : Cal) (d step n : Int) (i : Bool) (hn : 1 ≤ n) : walkZ c d step n i = alongZ c (if i then d else d + step) n step := by
  unfold walkZ alongZ
  by_cases h : (mayB c && decide (c.rest.length = 7)) = true
  · rw [if_pos h]
    simp at h
    rw [al_all _ _ (rests_all h.1 h.2) _ _ _ hn]
  · rw [if_neg h, wl_al _ _ _ _ _ hn, al_congr step (fun d hd => rests_own hd)]
theorem walk_to (c : Cal) (d step n : Int) (hn : 1 ≤ n) : walkZ c d step n true = alongZ c d n step := walk_along c d step n true hn
theorem walk_off (c : Cal) (d step n : Int) (hn : 1 ≤ n) : walkZ c d step n false = alongZ c (d + step) n step := walk_along c d step n false hn
end Go.Proofs.YtpgldnjejnigiaaDoor
