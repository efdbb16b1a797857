/-
  Marks: what a wrong text is mended to (plain).
-/
import Derived.Test.YtjohlbpahaklkaaDoorQ
import Derived.Sort.KeysCollected
namespace Go.Proofs.YtjohlbpahaklkaaDoor
set_option linter.unusedVariables false
set_option linter.unusedSimpArgs false
open Go.Sort

/-- one sign changed -/
def chg (s : ByteArray) (i c : Nat) : ByteArray := s.extract 0 i ++ ⟨#[UInt8.ofNat c]⟩ ++ s.extract (i + 1) s.size
theorem chg_size {s : ByteArray} {i c : Nat} (h : i < s.size) : (chg s i c).size = s.size := by
  unfold chg
  rw [ByteArray.size_append, ByteArray.size_append, size_extract s 0 i (by omega), size_extract s (i + 1) s.size (Nat.le_refl _)]
  have : (⟨#[UInt8.ofNat c]⟩ : ByteArray).size = 1 := rfl
  omega
theorem byt_one (c : Nat) (hc : c < 256) : byt ⟨#[UInt8.ofNat c]⟩ 0 = c := by
  rw [byt_get (⟨#[UInt8.ofNat c]⟩ : ByteArray) 0 (show 0 < 1 by omega)]
  show ((UInt8.ofNat c).toNat : Int) = c
  simp [UInt8.toNat_ofNat]
  omega
theorem chg_at {s : ByteArray} {i c : Nat} (h : i < s.size) (hc : c < 256) : byt (chg s i c) i = c := by
  have hz := size_extract s 0 i (by omega)
  unfold chg
  rw [byt_append, if_pos (by rw [ByteArray.size_append, hz]; show i < i - 0 + 1; omega), byt_append, if_neg (by omega), hz, show i - (i - 0) = 0 by omega, byt_one c hc]
theorem chg_off {s : ByteArray} {i c k : Nat} (h : i < s.size) (hk : k ≠ i) : byt (chg s i c) k = byt s k := by
  have hz := size_extract s 0 i (by omega)
  have h1 : (⟨#[UInt8.ofNat c]⟩ : ByteArray).size = 1 := rfl
  unfold chg
  rw [byt_append, ByteArray.size_append, hz, h1]
  split
  · rename_i hlt
    rw [byt_append, if_pos (by omega), byt_extract s 0 i k (by omega), if_pos (by omega), Nat.zero_add]
  · rename_i hge
    rw [byt_extract s (i + 1) s.size _ (Nat.le_refl _)]
    split
    · congr 1; omega
    · rw [byt_out s k (by omega)]
theorem chg_back {s : ByteArray} {i c d : Nat} (h : i < s.size) (hd : byt s i = d) (hd2 : d < 256) : chg (chg s i c) i d = s := by
  have hz := chg_size (c := c) h
  refine ext_byt (by rw [chg_size (by omega), hz]) fun k hk => ?_
  by_cases e : k = i
  · subst e; rw [chg_at (by omega) hd2, hd]
  · rw [chg_off (by omega) e, chg_off h e]
theorem chg_inj {s : ByteArray} {i c j d : Nat} (hi : i < s.size) (hj : j < s.size) (hc : c < 256) (hd : d < 256) (hne : chg s i c ≠ s) (h : chg s i c = chg s j d) : i = j ∧ c = d := by
  by_cases e : i = j
  · subst e
    refine ⟨rfl, ?_⟩
    have h1 := chg_at (c := c) hi hc
    rw [h, chg_at hi hd] at h1
    omega
  · exfalso
    apply hne
    refine ext_byt (chg_size hi) fun k hk => ?_
    by_cases e2 : k = i
    · rw [h, chg_off hj (by omega)]
    · rw [chg_off hi e2]
/-- one right mark near another right one is that one -/
theorem near_law {s t : ByteArray} (hs : rightB s = true) (ht : rightB t = true) (i : Nat) (hi : i < 12) (h : ∀ k, k ≠ i → byt t k = byt s k) : t = s := by
  obtain ⟨z1, ⟨⟨a0, a1, a2, a3⟩, b4, b5, b6, b7, b8, b9⟩, c0, c1, e1⟩ := (right_iff s).1 hs
  obtain ⟨z2, ⟨⟨a0', a1', a2', a3'⟩, b4', b5', b6', b7', b8', b9'⟩, d0, d1, e2⟩ := (right_iff t).1 ht
  have key : byt t i = byt s i := by
    by_cases h10 : i < 10
    · have hd := sum_one i (by omega) (fun k _ hk => h k hk)
      rw [h 10 (by omega), h 11 (by omega)] at e2
      have hz := mod_near e1 e2 hd
      unfold Low Dig at *
      have hc : i = 0 ∨ i = 1 ∨ i = 2 ∨ i = 3 ∨ i = 4 ∨ i = 5 ∨ i = 6 ∨ i = 7 ∨ i = 8 ∨ i = 9 := by omega
      rcases hc with rfl | rfl | rfl | rfl | rfl | rfl | rfl | rfl | rfl | rfl <;> omega
    · have hsum : sum10 t = sum10 s := by
        unfold sum10
        rw [h 0 (by omega), h 1 (by omega), h 2 (by omega), h 3 (by omega), h 4 (by omega), h 5 (by omega), h 6 (by omega), h 7 (by omega), h 8 (by omega), h 9 (by omega)]
      rw [hsum, e1] at e2
      unfold Dig at *
      have hc : i = 10 ∨ i = 11 := by omega
      rcases hc with rfl | rfl
      · rw [h 11 (by omega)] at e2; omega
      · rw [h 10 (by omega)] at e2; omega
  refine ext_byt (by omega) fun k _ => ?_
  by_cases e : k = i
  · rw [e, key]
  · exact h k e
def okM (s : ByteArray) (i c : Nat) : Bool := decide (chg s i c ≠ s) && rightB (chg s i c)
def txt (s : ByteArray) (i c : Nat) : List UInt8 := (chg s i c).data.toList
def hits (s : ByteArray) (i : Nat) (cs : List Nat) : List (List UInt8) := (cs.filter (okM s i)).map (txt s i)
def chars (i : Nat) : List Nat := if i < 4 then List.range' 97 26 else List.range' 48 10
theorem hits_app (s : ByteArray) (i : Nat) (a b : List Nat) : hits s i (a ++ b) = hits s i a ++ hits s i b := by unfold hits; rw [List.filter_append, List.map_append]
theorem hits_one (s : ByteArray) (i c : Nat) : hits s i [c] = if okM s i c then [txt s i c] else [] := by
  unfold hits
  cases h : okM s i c <;> simp [h]
/-- all that the program finds -/
def mendL (s : ByteArray) : List (List UInt8) := (List.range 12).flatMap fun i => hits s i (chars i)
/-- the first k places whole, of the next one the first j signs -/
def mendP (s : ByteArray) (ch : Nat → List Nat) (k j : Nat) : List (List UInt8) := ((List.range k).flatMap fun i => hits s i (ch i)) ++ hits s k ((ch k).take j)
theorem mendP_zero (s : ByteArray) (ch : Nat → List Nat) : mendP s ch 0 0 = [] := by simp [mendP, hits]
theorem mendP_next (s : ByteArray) (ch : Nat → List Nat) (k j : Nat) (h : j < (ch k).length) : mendP s ch k (j + 1) = if okM s k (ch k)[j] then mendP s ch k j ++ [txt s k (ch k)[j]] else mendP s ch k j := by
  unfold mendP
  rw [List.take_succ_eq_append_getElem h, hits_app, hits_one]
  split <;> simp
theorem mendP_row (s : ByteArray) (ch : Nat → List Nat) (k j : Nat) (h : (ch k).length ≤ j) : mendP s ch k j = mendP s ch (k + 1) 0 := by
  unfold mendP
  rw [List.take_of_length_le h, List.range_succ, List.flatMap_append]
  simp [hits]
theorem mendP_all (s : ByteArray) : mendP s chars 12 0 = mendL s := by simp [mendP, mendL, hits]
theorem right_char {s : ByteArray} {i c : Nat} (hz : s.size = 12) (hi : i < 12) (hc : c < 256) (h : rightB (chg s i c) = true) : if i < 4 then 97 ≤ c ∧ c ≤ 122 else 48 ≤ c ∧ c ≤ 57 := by
  obtain ⟨z2, ⟨⟨a0, a1, a2, a3⟩, b4, b5, b6, b7, b8, b9⟩, d0, d1, e2⟩ := (right_iff _).1 h
  have hb := chg_at (s := s) (i := i) (c := c) (by omega) hc
  unfold Low Dig at *
  have hcs : i = 0 ∨ i = 1 ∨ i = 2 ∨ i = 3 ∨ i = 4 ∨ i = 5 ∨ i = 6 ∨ i = 7 ∨ i = 8 ∨ i = 9 ∨ i = 10 ∨ i = 11 := by omega
  rcases hcs with rfl | rfl | rfl | rfl | rfl | rfl | rfl | rfl | rfl | rfl | rfl | rfl <;> simp <;> omega
theorem hits_none {s : ByteArray} {i : Nat} {cs : List Nat} (h : ∀ c ∈ cs, okM s i c = false) : hits s i cs = [] := by
  unfold hits
  rw [List.filter_eq_nil_iff.2 (fun c hc => by rw [h c hc]; simp)]
  rfl
theorem ok_right {s : ByteArray} {i c : Nat} (h : okM s i c = true) : chg s i c ≠ s ∧ rightB (chg s i c) = true := by unfold okM at h; simpa using h
/-- all that the reference tries -/
def chars2 (_ : Nat) : List Nat := List.range' 48 75
theorem hits_ref {s : ByteArray} (hz : s.size = 12) {i : Nat} (hi : i < 12) : hits s i (chars2 i) = hits s i (chars i) := by
  have hno : ∀ c : Nat, c < 256 → (if i < 4 then ¬ (97 ≤ c ∧ c ≤ 122) else ¬ (48 ≤ c ∧ c ≤ 57)) → okM s i c = false := by
    intro c hc h
    cases ho : okM s i c with
    | false => rfl
    | true =>
      have := right_char hz hi hc (ok_right ho).2
      split at h <;> rename_i h4
      · rw [if_pos h4] at this; exact absurd this h
      · rw [if_neg h4] at this; exact absurd this h
  unfold chars chars2
  by_cases h4 : i < 4
  · rw [if_pos h4, show (75 : Nat) = 49 + 26 from rfl, ← List.range'_append_1, hits_app, hits_none (cs := List.range' 48 49), List.nil_append]
    intro c hc
    rw [List.mem_range'_1] at hc
    exact hno c (by omega) (by rw [if_pos h4]; omega)
  · rw [if_neg h4, show (75 : Nat) = 10 + 65 from rfl, ← List.range'_append_1, hits_app, hits_none (cs := List.range' (48 + 10) 65), List.append_nil]
    intro c hc
    rw [List.mem_range'_1] at hc
    exact hno c (by omega) (by rw [if_neg h4]; omega)
theorem mendP_ref {s : ByteArray} (hz : s.size = 12) : mendP s chars2 12 0 = mendL s := by
  have key : ∀ l : List Nat, (∀ i ∈ l, i < 12) → (l.flatMap fun i => hits s i (chars2 i)) = l.flatMap fun i => hits s i (chars i) := by
    intro l
    induction l with
    | nil => intro _; rfl
    | cons a l ih =>
      intro h
      rw [List.flatMap_cons, List.flatMap_cons, hits_ref hz (h a (by simp)), ih fun i hi => h i (by simp [hi])]
  have h0 : hits s 12 ((chars2 12).take 0) = [] := by simp [hits]
  unfold mendP mendL
  rw [h0, List.append_nil]
  exact key _ fun i hi => by simpa using hi
theorem mend_right {s : ByteArray} (h : rightB s = true) : mendL s = [] := by
  unfold mendL
  rw [List.flatMap_eq_nil_iff]
  intro i hi
  have hi : i < 12 := by simpa using hi
  refine hits_none fun c hc => ?_
  cases ho : okM s i c with
  | false => rfl
  | true =>
    obtain ⟨h1, h2⟩ := ok_right ho
    exact absurd (near_law h h2 i hi (fun k hk => chg_off (by rw [right_size h]; exact hi) hk)) h1
theorem chars_small {i c : Nat} (h : c ∈ chars i) : c < 256 := by
  unfold chars at h
  split at h <;> rw [List.mem_range'_1] at h <;> omega
theorem txt_inj {s : ByteArray} {i c j d : Nat} (h : txt s i c = txt s j d) : chg s i c = chg s j d := by
  unfold txt at h
  exact ByteArray.ext (Array.ext' h)
theorem mendP_mem {s : ByteArray} {ch : Nat → List Nat} {k j : Nat} {x : List UInt8} (h : x ∈ mendP s ch k j) : ∃ i c, (i < k ∨ i = k) ∧ c ∈ ch i ∧ (i = k → c ∈ (ch k).take j) ∧ okM s i c = true ∧ x = txt s i c := by
  unfold mendP hits at h
  rcases List.mem_append.1 h with h | h
  · obtain ⟨i, hi, h⟩ := List.mem_flatMap.1 h
    obtain ⟨c, hc, rfl⟩ := List.mem_map.1 h
    obtain ⟨h1, h2⟩ := List.mem_filter.1 hc
    have : i < k := by simpa using hi
    exact ⟨i, c, .inl this, h1, fun e => by omega, h2, rfl⟩
  · obtain ⟨c, hc, rfl⟩ := List.mem_map.1 h
    obtain ⟨h1, h2⟩ := List.mem_filter.1 hc
    exact ⟨k, c, .inr rfl, List.mem_of_mem_take h1, fun _ => h1, h2, rfl⟩
/-- what comes next is new -/
theorem mendP_new {s : ByteArray} {k j : Nat} (hz : s.size = 12) (hk : k < 12) (h : j < (chars k).length) (ho : okM s k (chars k)[j] = true) : txt s k (chars k)[j] ∉ mendP s chars k j := by
  intro hm
  obtain ⟨i, c, hi, hc, hj, h1, h2⟩ := mendP_mem hm
  have hcm : (chars k)[j] ∈ chars k := List.getElem_mem h
  obtain ⟨rfl, hcd⟩ := chg_inj (by omega) (by omega) (chars_small hcm) (chars_small hc) (ok_right ho).1 (txt_inj h2)
  have ht := hj rfl
  have hnd : (chars k).Nodup := by unfold chars; split <;> exact List.nodup_range'
  obtain ⟨m, hm, he⟩ := List.mem_take_iff_getElem.1 ht
  have := (List.getElem_inj hnd).1 (hcd ▸ he : (chars k)[m]'(by omega) = (chars k)[j])
  omega
theorem mendL_mem {s : ByteArray} {i c : Nat} (hi : i < 12) (hc : c ∈ chars i) (ho : okM s i c = true) : txt s i c ∈ mendL s := by
  unfold mendL hits
  exact List.mem_flatMap.2 ⟨i, by simpa using hi, List.mem_map.2 ⟨c, List.mem_filter.2 ⟨hc, ho⟩, rfl⟩⟩
end Go.Proofs.YtjohlbpahaklkaaDoor
