/-
  Days: texts (plain).
-/
import Derived.Test.YtpgldnjejnigiaaDoorPm
import Derived.Test.YtpgldnjejnigiaaDoorP2
import Derived.Lib.Atoi
namespace Go.Proofs.YtpgldnjejnigiaaDoor

theorem digI_val {c : Int} (h : digI c = true) : 0 ≤ val c ∧ val c ≤ 9 := by
  rw [val_dig h]
  unfold digI at h
  simp at h
  omega
theorem num_range (s : ByteArray) (a : Nat) : ∀ w, rng digI s a w = true → 0 ≤ num s a w ∧ num s a w < 10 ^ w
  | 0, _ => by simp [num]
  | w + 1, h => by
    have h' := (rng_iff digI s (w + 1) a).1 h
    have ih := num_range s a w ((rng_iff digI s w a).2 fun k h1 h2 => h' k h1 (by omega))
    have hd := digI_val (h' (a + w) (by omega) (by omega))
    rw [num, show (10 : Int) ^ (w + 1) = 10 ^ w * 10 from Int.pow_succ 10 w]
    omega
theorem num_div (s : ByteArray) (a : Nat) : ∀ w j, rng digI s a (w + j) = true → num s a (w + j) / 10 ^ j = num s a w
  | w, 0, _ => by simp
  | w, j + 1, h => by
    have h' := (rng_iff digI s (w + (j + 1)) a).1 h
    have hd := digI_val (h' (a + (w + j)) (by omega) (by omega))
    have hr : rng digI s a (w + j) = true := (rng_iff digI s (w + j) a).2 fun k h1 h2 => h' k h1 (by omega)
    have ih := num_div s a w j hr
    have hp := (num_range s a (w + j) hr).1
    rw [show w + (j + 1) = (w + j) + 1 by omega, num, show (10 : Int) ^ (j + 1) = 10 * 10 ^ j from by rw [Int.pow_succ, Int.mul_comm], ← Int.ediv_ediv_of_nonneg (by omega : (0 : Int) ≤ 10)]
    rw [show (num s a (w + j) * 10 + val (byt s (a + (w + j)))) / 10 = num s a (w + j) by omega, ih]
theorem padB_num (s : ByteArray) (a w : Nat) (h : rng digI s a w = true) (hz : a + w ≤ s.size) : padB w (num s a w).toNat = s.extract a (a + w) := by
  have hez := size_extract s a (a + w) hz
  refine ext_byt (by rw [padB_size, hez]; omega) fun k hk => ?_
  rw [padB_size] at hk
  rw [padB_byt w _ k hk, byt_extract s a (a + w) k hz, if_pos (by omega)]
  have h' := (rng_iff digI s w a).1 h
  have h1 : rng digI s a (k + 1) = true := (rng_iff digI s (k + 1) a).2 fun j h1 h2 => h' j h1 (by omega)
  have h2 := num_div s a (k + 1) (w - 1 - k) (by rw [show k + 1 + (w - 1 - k) = w by omega]; exact h)
  rw [show k + 1 + (w - 1 - k) = w by omega] at h2
  have h3 := num_range s a w h
  have h4 := num_range s a k ((rng_iff digI s k a).2 fun j h1 h2 => h' j h1 (by omega))
  have hd := h' (a + k) (by omega) (by omega)
  have hv := digI_val hd
  rw [num] at h2
  obtain ⟨n, hn⟩ := Int.eq_ofNat_of_zero_le h3.1
  rw [hn] at h2 ⊢
  rw [Int.toNat_natCast]
  have h5 : ((n / 10 ^ (w - 1 - k) : Nat) : Int) = num s a k * 10 + val (byt s (a + k)) := by
    rw [← h2]
    simp
  rw [val_dig hd] at h5 hv
  generalize n / 10 ^ (w - 1 - k) = q at *
  omega
theorem digitVal_dig {c : UInt8} (h : digI (c.toNat : Int) = true) : Lib.digitVal c = some (val (c.toNat : Int)).toNat := by
  rw [val_dig h]
  unfold digI at h
  simp at h
  unfold Lib.digitVal
  rw [if_pos (by omega)]
  congr 1
  omega
theorem dec_take (s : ByteArray) (h : rng digI s 0 s.size = true) : ∀ k, k ≤ s.size → Lib.decFrom 0 (s.data.toList.take k) = some (num s 0 k).toNat
  | 0, _ => rfl
  | k + 1, hk => by
    have h' := (rng_iff digI s s.size 0).1 h
    have ih := dec_take s h k (by omega)
    have hd := h' k (by omega) (by omega)
    have hb := byt_get s k (by omega)
    have hr := num_range s 0 k ((rng_iff digI s k 0).2 fun j h1 h2 => h' j h1 (by omega))
    have hv := digI_val hd
    have hc : s.data.toList[k]? = some s[k] := by
      rw [List.getElem?_eq_getElem (by simp; omega)]
      rfl
    rw [num, Nat.zero_add]
    rw [hb] at hd hv ⊢
    rw [Lib.decFrom_take s.data.toList k 0 _ s[k] _ ih hc (digitVal_dig hd)]
    congr 1
    omega
theorem atoi_num (s : ByteArray) (h : rng digI s 0 s.size = true) (h0 : 0 < s.size) : Lib.atoi s.data.toList = some (num s 0 s.size) := by
  have hd := (rng_iff digI s s.size 0).1 h 0 (by omega) (by omega)
  rw [byt_get s 0 h0] at hd
  have ht := dec_take s h s.size (Nat.le_refl _)
  rw [List.take_of_length_le (by simp)] at ht
  have hr := num_range s 0 s.size h
  have hl : s.data.toList = s[0] :: s.data.toList.drop 1 := by
    have := List.drop_eq_getElem_cons (l := s.data.toList) (i := 0) (by simpa using h0)
    rw [List.drop_zero] at this
    exact this
  have hn : Lib.decNat s.data.toList = some (num s 0 s.size).toNat := by
    unfold Lib.decNat
    rw [ht, hl]
    rfl
  generalize num s 0 s.size = N at *
  generalize hb : s[0] = b at *
  rw [hl] at hn ⊢
  unfold digI at hd
  simp at hd
  rw [Lib.atoi]
  have e1 : (b == 45) = false := by
    rw [beq_eq_false_iff_ne]
    rintro rfl
    simp at hd
  have e2 : (b == 43) = false := by
    rw [beq_eq_false_iff_ne]
    rintro rfl
    simp at hd
  rw [e1, e2, hn]
  simp
  omega

/-! ### the form of a day's text -/
def posOk (k : Nat) (c : Int) : Bool := if k = 4 ∨ k = 7 then c == 45 else digI c
def formF (s : ByteArray) (k : Nat) : Bool := (List.range' k (10 - k)).all fun j => posOk j (byt s j)
theorem formF_step (s : ByteArray) (k : Nat) (h : k < 10) : formF s k = (posOk k (byt s k) && formF s (k + 1)) := by
  unfold formF
  rw [show 10 - k = (10 - (k + 1)) + 1 by omega, List.range'_succ, List.all_cons]
theorem formF_end (s : ByteArray) : formF s 10 = true := rfl
def formB (s : ByteArray) : Bool := decide (s.size = 10) && formF s 0
theorem form_iff (s : ByteArray) : formB s = true ↔ s.size = 10 ∧ byt s 4 = 45 ∧ byt s 7 = 45 ∧ rng digI s 0 4 = true ∧ rng digI s 5 2 = true ∧ rng digI s 8 2 = true := by
  unfold formB formF
  rw [Bool.and_eq_true, decide_eq_true_eq]
  show _ ∧ ([0, 1, 2, 3, 4, 5, 6, 7, 8, 9].all fun j => posOk j (byt s j)) = true ↔ _
  simp only [rng, Nat.reduceAdd, List.all_cons, List.all_nil, Bool.and_eq_true, posOk, Nat.reduceEqDiff, or_self, or_true, true_or, or_false, false_or, if_true, if_false, beq_iff_eq]
  constructor
  · rintro ⟨a, b0, b1, b2, b3, b4, b5, b6, b7, b8, b9, -⟩
    exact ⟨a, b4, b7, ⟨b0, b1, b2, b3, trivial⟩, ⟨b5, b6, trivial⟩, ⟨b8, b9, trivial⟩⟩
  · rintro ⟨a, b4, b7, ⟨b0, b1, b2, b3, -⟩, ⟨b5, b6, -⟩, ⟨b8, b9, -⟩⟩
    exact ⟨a, b0, b1, b2, b3, b4, b5, b6, b7, b8, b9, trivial⟩
/-- the day of a text, the code -/
def parD (s : ByteArray) : Option Int := if formB s then dayZ (num s 0 4) (num s 5 2 - 1) (num s 8 2) else none
def parE (s : ByteArray) : Int := if formB s then (if (dayZ (num s 0 4) (num s 5 2 - 1) (num s 8 2)).isSome then 0 else 3) else 2
def dashB : ByteArray := ⟨#[45]⟩
def textOf (y m o : Nat) : ByteArray := padB 4 y ++ dashB ++ padB 2 m ++ dashB ++ padB 2 o
theorem dash_byt : byt dashB 0 = 45 := rfl
theorem dash_size : dashB.size = 1 := rfl
/-- a text that is parsed is printed as it was -/
theorem text_parsed {s : ByteArray} (h : formB s = true) : textOf (num s 0 4).toNat (num s 5 2).toNat (num s 8 2).toNat = s := by
  obtain ⟨hz, h4, h7, r0, r5, r8⟩ := (form_iff s).1 h
  unfold textOf
  rw [padB_num s 0 4 r0 (by omega), padB_num s 5 2 r5 (by omega), padB_num s 8 2 r8 (by omega)]
  have z0 := size_extract s 0 4 (by omega)
  have z5 := size_extract s 5 7 (by omega)
  have z8 := size_extract s 8 10 (by omega)
  have hs : ∀ (a b : ByteArray), (a ++ b).size = a.size + b.size := fun _ _ => ByteArray.size_append
  refine ext_byt (by rw [hs, hs, hs, hs, dash_size]; simp only [Nat.reduceAdd]; omega) fun k hk => ?_
  rw [hs, hs, hs, hs, dash_size] at hk
  simp only [Nat.reduceAdd] at hk ⊢
  rw [byt_append, byt_append, byt_append, byt_append, hs, hs, hs, dash_size, byt_extract s 0 4 _ (by omega), byt_extract s 5 7 _ (by omega), byt_extract s 8 10 _ (by omega)]
  rcases (by omega : k = 0 ∨ k = 1 ∨ k = 2 ∨ k = 3 ∨ k = 4 ∨ k = 5 ∨ k = 6 ∨ k = 7 ∨ k = 8 ∨ k = 9) with rfl | rfl | rfl | rfl | rfl | rfl | rfl | rfl | rfl | rfl
  all_goals (simp only [z0, z5, Nat.reduceAdd, Nat.reduceSub, Nat.reduceLT, if_true, if_false]; try (first | rfl | (rw [dash_byt, h4]) | (rw [dash_byt, h7])))
theorem byt_dash_at (a b : ByteArray) (k : Nat) (h : k = a.size) : byt (a ++ dashB ++ b) k = 45 := by
  rw [byt_append, ByteArray.size_append, dash_size, if_pos (by omega), byt_append, if_neg (by omega), show k - a.size = 0 by omega]
  rfl
theorem text_size (y m o : Nat) : (textOf y m o).size = 10 := by
  unfold textOf
  rw [ByteArray.size_append, ByteArray.size_append, ByteArray.size_append, ByteArray.size_append, padB_size, padB_size, padB_size, dash_size]
theorem text_form {y m o : Nat} (hy : y < 10000) (hm : m < 100) (ho : o < 100) : formB (textOf y m o) = true ∧ num (textOf y m o) 0 4 = y ∧ num (textOf y m o) 5 2 = m ∧ num (textOf y m o) 8 2 = o := by
  have z4 := padB_size 4 y
  have z2 := padB_size 2 m
  have z1 := padB_size 2 o
  have n4 := num_pad 4 y hy 4 (by omega)
  have n2 := num_pad 2 m hm 2 (by omega)
  have n1 := num_pad 2 o ho 2 (by omega)
  have r4 := rng_pad 4 y
  have r2 := rng_pad 2 m
  have r1 := rng_pad 2 o
  rw [form_iff, text_size]
  unfold textOf
  generalize padB 4 y = A at *
  generalize padB 2 m = B at *
  generalize padB 2 o = C at *
  have hs : ∀ (a b : ByteArray), (a ++ b).size = a.size + b.size := fun _ _ => ByteArray.size_append
  have s1 : (A ++ dashB).size = 5 := by rw [hs, dash_size]; omega
  have s2 : (A ++ dashB ++ B).size = 7 := by rw [hs, s1]; omega
  have s3 : (A ++ dashB ++ B ++ dashB).size = 8 := by rw [hs, s2, dash_size]
  refine ⟨⟨rfl, ?_, ?_, ?_, ?_, ?_⟩, ?_, ?_, ?_⟩
  · rw [byt_append, if_pos (by omega), byt_append, if_pos (by omega)]
    exact byt_dash_at A B 4 (by omega)
  · exact byt_dash_at (A ++ dashB ++ B) C 7 (by omega)
  · rw [rng_append_left _ _ _ _ _ (by omega), rng_append_left _ _ _ _ _ (by omega), rng_append_left _ _ _ _ _ (by omega), rng_append_left _ _ _ _ _ (by omega)]
    exact r4
  · rw [rng_append_left _ _ _ _ _ (by omega), rng_append_left _ _ _ _ _ (by omega), rng_append_right _ _ _ _ _ (by omega), s1]
    exact r2
  · rw [rng_append_right _ _ _ _ _ (by omega), s3]
    exact r1
  · rw [num_append_left _ _ _ _ (by omega), num_append_left _ _ _ _ (by omega), num_append_left _ _ _ _ (by omega), num_append_left _ _ _ _ (by omega), n4]
    simp
  · rw [num_append_left _ _ _ _ (by omega), num_append_left _ _ _ _ (by omega), num_append_right _ _ _ (by omega), s1, n2]
    simp
  · rw [num_append_right _ _ _ (by omega), s3, n1]
    simp
/-- a day's text is parsed as that day -/
theorem parse_text {d : Int} (h : isD d = true) : formB (textOf (2000 + (ymd d).n) ((ymd d).m + 1) ((ymd d).o + 1).toNat) = true ∧ parD (textOf (2000 + (ymd d).n) ((ymd d).m + 1) ((ymd d).o + 1).toNat) = some d := by
  obtain ⟨a0, a1, a2, -, a3⟩ := ymd_spec h
  have hmr := monL_range (2000 + (ymd d).n) (ymd d).m
  obtain ⟨f, e1, e2, e3⟩ := text_form (y := 2000 + (ymd d).n) (m := (ymd d).m + 1) (o := ((ymd d).o + 1).toNat) (by omega) (by omega) (by omega)
  refine ⟨f, ?_⟩
  unfold parD
  rw [f, if_pos rfl, e1, e2, e3, Int.toNat_of_nonneg (by omega), show (((ymd d).m + 1 : Nat) : Int) - 1 = (ymd d).m by omega, show ((2000 + (ymd d).n : Nat) : Int) = 2000 + (ymd d).n by omega]
  exact ymd_back h
/-- what is parsed is a day of that text -/
theorem parsed_text {s : ByteArray} {d : Int} (h : parD s = some d) : isD d = true ∧ textOf (2000 + (ymd d).n) ((ymd d).m + 1) ((ymd d).o + 1).toNat = s := by
  unfold parD at h
  cases hf : formB s with
  | false => rw [hf] at h; cases h
  | true =>
    rw [hf, if_pos rfl] at h
    obtain ⟨h1, h2, h3, h4⟩ := ymd_uniq h
    refine ⟨h1, ?_⟩
    have ht := text_parsed hf
    rw [show (num s 0 4).toNat = 2000 + (ymd d).n by omega, show (num s 5 2).toNat = (ymd d).m + 1 by omega, show (num s 8 2).toNat = ((ymd d).o + 1).toNat by omega] at ht
    exact ht
end Go.Proofs.YtpgldnjejnigiaaDoor
