/-
  Money: what is read (plain).
-/
import Derived.Test.YtgnmjopifdekiaaDoorPp
import Derived.Test.YtgnmjopifdekiaaDoorPt
import Derived.Lib.IndexMore
namespace Go.Proofs.YtgnmjopifdekiaaDoor
set_option linter.unusedVariables false
set_option linter.unusedSimpArgs false

def cutA (s : ByteArray) : ByteArray := ⟨(Lib.cut s.data.toList [32]).1.toArray⟩
def cutB (s : ByteArray) : ByteArray := ⟨(Lib.cut s.data.toList [32]).2.1.toArray⟩
def cutOk (s : ByteArray) : Bool := (Lib.cut s.data.toList [32]).2.2
def numB (t : ByteArray) : ByteArray := ⟨(Lib.replace t.data.toList [46] [] 1).toArray⟩
/-- what is read of a text -/
def parseM (s : ByteArray) : Option (ByteArray × Int) :=
  if cutOk s then
    match Lib.parseIntB 64 (numB (cutB s)).data.toList with
    | .ok n => if textM (cutA s) n = s then some (cutA s, n) else none
    | _ => none
  else none
theorem split_first (x : UInt8) (l : List UInt8) : x ∉ l ∨ ∃ a b, l = a ++ x :: b ∧ x ∉ a := by
  rcases Classical.em (x ∈ l) with h | h
  · right
    obtain ⟨a, b, h1, h2⟩ := List.eq_append_cons_of_mem h
    exact ⟨a, b, h1, h2⟩
  · exact .inl h
theorem mkb_size (l : List UInt8) : (⟨l.toArray⟩ : ByteArray).size = l.length := List.size_toArray
theorem len_size (s : ByteArray) : s.size = s.data.toList.length := Array.length_toList.symm
theorem cutA_size (s : ByteArray) : (cutA s).size ≤ s.size ∧ (cutB s).size ≤ s.size := by
  have hs := len_size s
  unfold cutA cutB
  rcases split_first 32 s.data.toList with h | ⟨a, b, h1, h2⟩
  · rw [cut_none _ _ h, hs]
    simp only [mkb_size]
    simp
  · rw [hs, h1, cut_first _ _ _ h2]
    simp only [mkb_size]
    simp
    omega
theorem numB_size (t : ByteArray) : (numB t).size ≤ t.size := by
  have hs := len_size t
  unfold numB
  rcases split_first 46 t.data.toList with h | ⟨a, b, h1, h2⟩
  · rw [replace_none _ _ h, hs]
    exact Nat.le_refl _
  · rw [hs, h1, replace_first _ _ _ h2]
    rw [show (⟨(a ++ b).toArray⟩ : ByteArray).size = (a ++ b).length from mkb_size _]
    simp
theorem textM_of {c : ByteArray} {n : Int} (h : mayM c n = true) : textM c n = moneyB c n := by unfold textM; rw [if_pos h]
theorem textM_no {c : ByteArray} {n : Int} (h : mayM c n = false) : textM c n = ⟨#[]⟩ := by unfold textM; rw [h]; rfl
theorem parseM_some {s c : ByteArray} {n : Int} (h : parseM s = some (c, n)) : mayM c n = true ∧ textM c n = s := by
  unfold parseM at h
  split at h
  · rename_i hok
    split at h
    · rename_i k hk
      split at h
      · rename_i ht
        have h' := Option.some.inj h
        have h1 : cutA s = c := congrArg Prod.fst h'
        have h2 : k = n := congrArg Prod.snd h'
        rw [h1, h2] at ht
        refine ⟨?_, ht⟩
        cases hm : mayM c n with
        | true => rfl
        | false =>
          rw [textM_no hm] at ht
          rw [← ht] at hok
          exact absurd hok (by decide)
      · cases h
    · cases h
  · cases h
theorem cur_mem {c : ByteArray} (h : curB c = true) : (32 : UInt8) ∉ c.data.toList := by
  unfold curB at h
  simp only [Bool.and_eq_true, decide_eq_true_eq] at h
  obtain ⟨hz, hr⟩ := h
  have hr := (rng_iff upI c 3 0).1 hr
  intro hm
  obtain ⟨k, hk, he⟩ := List.getElem_of_mem hm
  have hk' : k < c.size := by rw [len_size]; exact hk
  have := hr k (by omega) (by omega)
  rw [byt_get c k hk'] at this
  have e2 : c[k] = 32 := by
    rw [← he]
    simp [ByteArray.getElem_eq_getElem_data]
  rw [e2] at this
  exact absurd this (by decide)
theorem sign_mem (n : Int) : (46 : UInt8) ∉ (signB n).data.toList := by unfold signB; split <;> simp
theorem parseM_of {c : ByteArray} {n : Int} (h : mayM c n = true) : parseM (moneyB c n) = some (c, n) := by
  obtain ⟨hc, n0, n1⟩ := mayM_iff.1 h
  have hcm := cur_mem hc
  obtain ⟨d, hd⟩ : ∃ d, digN c = d := ⟨_, rfl⟩
  have hL : (moneyB c n).data.toList = c.data.toList ++ 32 :: ((signB n).data.toList ++ (bodyB d n.natAbs).data.toList) := by
    unfold moneyB
    rw [hd]
    simp [ByteArray.data_append]
  have hcut : Lib.cut (moneyB c n).data.toList [32] = (c.data.toList, (signB n).data.toList ++ (bodyB d n.natAbs).data.toList, true) := by
    rw [hL]; exact cut_first _ _ _ hcm
  have hA : cutA (moneyB c n) = c := by unfold cutA; rw [hcut]
  have hok : cutOk (moneyB c n) = true := by unfold cutOk; rw [hcut]
  have hB : (cutB (moneyB c n)).data.toList = (signB n).data.toList ++ (bodyB d n.natAbs).data.toList := by unfold cutB; rw [hcut]
  have hN : ∃ j, (numB (cutB (moneyB c n))).data.toList = (signB n).data.toList ++ zdl n.natAbs j := by
    unfold numB
    rw [hB]
    unfold bodyB
    by_cases h0 : d = 0
    · rw [if_pos h0]
      refine ⟨0, ?_⟩
      have : (46 : UInt8) ∉ (signB n).data.toList ++ (decB n.natAbs).data.toList := by
        intro hm
        rcases List.mem_append.1 hm with hm | hm
        · exact sign_mem n hm
        · have := digit_mem _ (show (46 : UInt8) ∈ Lib.decDigits n.natAbs by simpa [decB] using hm)
          exact absurd this.1 (by decide)
      rw [replace_none _ _ this]
      simp [decB, zdl]
    · rw [if_neg h0]
      refine ⟨d + 1 - (Lib.decDigits n.natAbs).length, ?_⟩
      rw [zd_split]
      have e : (signB n).data.toList ++ (decB (n.natAbs / 10 ^ d) ++ ⟨#[46]⟩ ++ padB d (n.natAbs % 10 ^ d)).data.toList = ((signB n).data.toList ++ Lib.decDigits (n.natAbs / 10 ^ d)) ++ 46 :: pad d (n.natAbs % 10 ^ d) := by
        simp [ByteArray.data_append, decB, padB]
      have hm : (46 : UInt8) ∉ (signB n).data.toList ++ Lib.decDigits (n.natAbs / 10 ^ d) := by
        intro hm
        rcases List.mem_append.1 hm with hm | hm
        · exact sign_mem n hm
        · exact absurd (digit_mem _ hm).1 (by decide)
      rw [e, replace_first _ _ _ hm]
      simp
  obtain ⟨j, hj⟩ := hN
  unfold parseM
  rw [if_pos hok, hj, parse_signed n j ⟨n0, n1⟩]
  simp only [hA]
  rw [if_pos (textM_of h)]
/-- a text is read just if it is some money's -/
theorem parseM_iff {s c : ByteArray} {n : Int} : parseM s = some (c, n) ↔ mayM c n = true ∧ textM c n = s := by
  constructor
  · exact parseM_some
  · rintro ⟨h1, h2⟩
    rw [← h2, textM_of h1]
    exact parseM_of h1
end Go.Proofs.YtgnmjopifdekiaaDoor
