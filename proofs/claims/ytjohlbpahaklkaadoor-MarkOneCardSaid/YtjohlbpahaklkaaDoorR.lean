/-
  Marks: Mend, walked.
-/
import Derived.Test.YtjohlbpahaklkaaDoorK
import Derived.Test.YtjohlbpahaklkaaDoorMp
import Derived.Test.YtjohlbpahaklkaaDoorSet
import Derived.Test.YtjohlbpahaklkaaDoorStrs
namespace Go.Proofs.YtjohlbpahaklkaaDoor
set_option linter.unusedVariables false
set_option linter.unusedSimpArgs false
open Go.RowKit Go.Sort Go.Maps

/-- block b reads as the bytes of S -/
def BytesAt (W : World) (b : Nat) (S : ByteArray) : Prop := b < W.heap.size ∧ ∀ j (h : j < S.size), W.cell? ⟨b, j, none⟩ = some (.int .u8 (S[j].toNat : Int))
theorem BytesAt.next {W W' : World} {b : Nat} {S : ByteArray} (h : BytesAt W b S) (hb : Below W.heap.size W W') : BytesAt W' b S :=
  ⟨Nat.lt_of_lt_of_le h.1 hb.size, fun j hj => (hb.cell (p := ⟨b, j, none⟩) h.1).trans (h.2 j hj)⟩
theorem BytesAt.grown {W W' : World} {b B : Nat} {S : ByteArray} (h : BytesAt W b S) (hg : W.grownBy W' (some B)) (hne : b ≠ B) : BytesAt W' b S :=
  ⟨Nat.lt_of_lt_of_le h.1 hg.size, fun j hj => (World.cell?_of_block (hg.block _ h.1 (by simpa using hne))).trans (h.2 j hj)⟩
theorem wpList_bytes {w : World} {ops : Array Oper} {rest : List Oper} {o : Oper} {a : Act} {Q : Exit → Act → World → Prop} (hg : o.guard = none) (x : Operand) (hop : o.op = Op.convert 9 29 x) (s : ByteArray) (hx : a.eval x = .string s)
    (hK : ∀ c w', Below w.heap.size w w' → BytesAt w' w.heap.size s → wpList Tryd.prog ops Q rest (a.put o.dst (.slice (some ⟨w.heap.size, 0, none⟩) s.size c)) w') : wpList Tryd.prog ops Q (o :: rest) a w := by
  have hr := run_bytes_of_string (P := Tryd.prog) w 9 29 5 s Tryd.underlying9 Tryd.underlying29 Tryd.underlying5
  have hat := fun j hj => bytesRow_at s (grownCap w s.size 0 5) j hj
  generalize grownCap w s.size 0 5 = c at *
  generalize bytesRow s c = C at *
  have hby : BytesAt (w.drew.alloc (.cells C 5 (C.size, C.size + 1))) w.heap.size s :=
    ⟨by simp, fun j hj => (World.cell?_alloc_mark w.drew C 5 (C.size, C.size + 1) j).trans (hat j hj)⟩
  have hk := hK c _ (by (repeat' first | exact Below.refl _ _ | (with_reducible assumption) | (with_reducible refine bAlloc (by first | omega | (simp <;> omega)) ?_) | (with_reducible refine bSet (by first | omega | (simp <;> omega)) ?_) | (with_reducible refine bDrew ?_) | (with_reducible refine bDrewN ?_) | (with_reducible refine bTrans (by with_reducible assumption) (by first | omega | (simp <;> omega)) ?_))) hby
  refine wpList_plain hg fun K hK' => ?_
  unfold Oper.wp
  simp [execOp, hop, hx, hr, Result.andThen]
  exact hK' _ _ hk
/-- what may stand at a place, as a text -/
def chS (i : Nat) : ByteArray := if i < 4 then ⟨#[97, 98, 99, 100, 101, 102, 103, 104, 105, 106, 107, 108, 109, 110, 111, 112, 113, 114, 115, 116, 117, 118, 119, 120, 121, 122]⟩ else ⟨#[48, 49, 50, 51, 52, 53, 54, 55, 56, 57]⟩
theorem choicesW (i : Nat) (w : World) : Calls Tryd.prog 36 #[.int .i64 i] w fun e w' => e = .returned (.string (chS i)) ∧ w = w' := by
  by_cases h : i < 4
  · have he := Lib.hid (show chS i = ⟨#[97, 98, 99, 100, 101, 102, 103, 104, 105, 106, 107, 108, 109, 110, 111, 112, 113, 114, 115, 116, 117, 118, 119, 120, 121, 122]⟩ by unfold chS; rw [if_pos h])
    have hi : (i : Int) < 4 := by omega
    go_enter Tryd.func36, Tryd.ntmps36
    go_wp2
    go_ret
    rw [he.out]
    exact ⟨rfl, rfl⟩
  · have he := Lib.hid (show chS i = ⟨#[48, 49, 50, 51, 52, 53, 54, 55, 56, 57]⟩ by unfold chS; rw [if_neg h])
    have hi : ¬ (i : Int) < 4 := by omega
    go_enter Tryd.func36, Tryd.ntmps36
    go_wp2
    go_ret
    rw [he.out]
    exact ⟨rfl, rfl⟩
theorem chS_size (i : Nat) : (chS i).size = (chars i).length := by unfold chS chars; split <;> rfl
theorem chS_at (i j : Nat) (h : j < (chS i).size) (h' : j < (chars i).length) : (chS i)[j].toNat = (chars i)[j] := by
  unfold chS chars at *
  split
  · rename_i h4
    simp only [h4, if_true] at h h'
    have : ∀ j : Fin 26, ((⟨#[97, 98, 99, 100, 101, 102, 103, 104, 105, 106, 107, 108, 109, 110, 111, 112, 113, 114, 115, 116, 117, 118, 119, 120, 121, 122]⟩ : ByteArray)[j.1]'j.2).toNat = 97 + j.1 := by decide +kernel
    rw [List.getElem_range', Nat.one_mul]
    exact this ⟨j, h⟩
  · rename_i h4
    simp only [h4, if_false] at h h'
    have : ∀ j : Fin 10, ((⟨#[48, 49, 50, 51, 52, 53, 54, 55, 56, 57]⟩ : ByteArray)[j.1]'j.2).toNat = 48 + j.1 := by decide +kernel
    rw [List.getElem_range', Nat.one_mul]
    exact this ⟨j, h⟩
theorem choices_ex (k : Nat) : ∃ S : ByteArray, (∀ w, Calls Tryd.prog 36 #[.int .i64 k] w fun e w' => e = .returned (.string S) ∧ w = w') ∧ S.size = (chars k).length ∧ ∀ j (h : j < S.size) (h' : j < (chars k).length), S[j].toNat = (chars k)[j] :=
  ⟨chS k, choicesW k, chS_size k, chS_at k⟩
theorem conv1d (W : World) (x : Int) : (convert 29 9 (.slice (some ⟨W.heap.size, 0, none⟩) 1 1)).run Tryd.prog (W.alloc (.cells #[.int .u8 x] 5)).drew = .ok (.string (strOfNums [x])) (W.alloc (.cells #[.int .u8 x] 5)).drew :=
  run_convert_bytes_arg _ 29 5 Tryd.underlying29 Tryd.underlying5 W.heap.size 0 1 1 [x] rfl (fun i hi => by
    show (W.alloc _).cell? _ = _
    rw [World.cell?_alloc_new]
    match i, hi with
    | 0, _ => rfl) 9 Tryd.underlying9
theorem str1_eq (c : Nat) : strOfNums [(c : Int)] = ⟨#[UInt8.ofNat c]⟩ := by unfold strOfNums; simp
/-- the changed text, as the walk has it -/
theorem chg_eq {s : ByteArray} {k c : Nat} : s.extract 0 k ++ strOfNums [(c : Int)] ++ s.extract (k + 1) s.size = chg s k c := by
  unfold chg
  rw [str1_eq]
set_option maxHeartbeats 4000000 in
set_option maxRecDepth 100000 in
theorem mendW (s : ByteArray) (hz : s.size = 12) (w : World) : Calls Tryd.prog 23 #[.string s] w (RetL w ((mendL s).mergeSort leB)) := by
  have hzI : (s.size : Int) = 12 := by omega
  have HZ := Lib.hid hz
  clear hz
  have hCh := fun i w => choicesW i w
  have cv := conv1d
  have sz1 := str1_size
  have hmm := @run_makeMap Tryd.prog
  go_enter Tryd.func23, Tryd.ntmps23
  go_wp2
  go_loopw [12] (fun i W => ∃ k n : Nat, k ≤ 12 ∧ n ≤ 26 * k ∧ i = .int .i64 k ∧ StrSet W w.heap.size n (mendP s chars k 0) ∧ Below w.heap.size w W) (fun i _ => 12 - (intOf i).toNat)
  case atStart => exact ⟨0, 0, by omega, by omega, rfl, by rw [mendP_zero]; exact StrSet.made w, by (repeat' first | exact Below.refl _ _ | (with_reducible assumption) | (with_reducible refine bAlloc (by first | omega | (simp <;> omega)) ?_) | (with_reducible refine bSet (by first | omega | (simp <;> omega)) ?_) | (with_reducible refine bDrew ?_) | (with_reducible refine bDrewN ?_) | (with_reducible refine bTrans (by with_reducible assumption) (by first | omega | (simp <;> omega)) ?_))⟩
  case round =>
    obtain ⟨k, n, hk, hn, rfl, hset, hB⟩ := hrel
    by_cases hlt : k < 12
    · have hks : k < s.size := by have := HZ.out; omega
      have hbs := hset.lt
      obtain ⟨S, hC, hcs, hca⟩ := choices_ex k
      have HCA := Lib.hid hca
      have HCS := Lib.hid hcs
      clear hca hcs
      have hl26 : S.size ≤ 26 := by rw [HCS.out]; unfold chars; split <;> simp
      obtain ⟨wo, rfl⟩ : ∃ wo : World, wo = wr := ⟨_, rfl⟩
      go_wp2_with (first | (go_at_call 36; (with_reducible refine (hC _).mono ?_); rintro e w' ⟨rfl, rfl⟩) | (refine wpList_bytes (by rfl) _ (by rfl) S (by rfl) ?_; intro cap w2 hb2 hby))
      have hset2 := hset.next hb2
      have hB2 : Below w.heap.size w w2 := by (repeat' first | exact Below.refl _ _ | (with_reducible assumption) | (with_reducible refine bAlloc (by first | omega | (simp <;> omega)) ?_) | (with_reducible refine bSet (by first | omega | (simp <;> omega)) ?_) | (with_reducible refine bDrew ?_) | (with_reducible refine bDrewN ?_) | (with_reducible refine bTrans (by with_reducible assumption) (by first | omega | (simp <;> omega)) ?_))
      have hne : wo.heap.size ≠ w.heap.size := by omega
      have hby' := hby
      clear hb2 hset hB hby
      go_loopw [19] (fun j W => ∃ m n : Nat, m ≤ S.size ∧ n ≤ 26 * k + m ∧ j = .int .i64 m ∧ StrSet W w.heap.size n (mendP s chars k m) ∧ Below w.heap.size w W ∧ BytesAt W wo.heap.size S) (fun j _ => S.size - (intOf j).toNat)
      case atStart => exact ⟨0, n, by omega, by omega, rfl, hset2, hB2, hby'⟩
      case round =>
        clear hset2 hB2 hby'
        obtain ⟨m, n', hm, hn', rfl, hset, hB, hby⟩ := hrel
        by_cases hml : m < S.size
        · have hcell := hby.2 m hml
          have hlen : m < (chars k).length := by have := HCS.out; omega
          obtain ⟨c, hc⟩ : ∃ c : Nat, (chars k)[m] = c := ⟨_, rfl⟩
          have hcS : (S[m].toNat : Int) = c := by rw [HCA.out m hml hlen, hc]
          rw [hcS] at hcell
          have hnx := Lib.hid (mendP_next s chars k m hlen)
          have hnew := Lib.hid (fun h => mendP_new (s := s) HZ.out hlt hlen h)
          rw [hc] at hnx hnew
          have hT := chg_eq (s := s) (k := k) (c := c)
          have hTz := chg_size (s := s) (i := k) (c := c) hks
          obtain ⟨T, eT⟩ : ∃ T, chg s k c = T := ⟨_, rfl⟩
          have htx : txt s k c = T.data.toList := by unfold txt; rw [eT]
          have hok : okM s k c = (decide (T ≠ s) && rightB T) := by unfold okM; rw [eT]
          rw [eT] at hT hTz
          have hR := fun w => qB' (rightW T w (by rw [hTz, HZ.out]; unfold maxLen; omega))
          have hst := str_eqB T s
          have hTm : T.size ≤ maxLen := by rw [hTz, HZ.out]; unfold maxLen; omega
          rw [htx] at hnx hnew
          have hTM := Lib.hid hTm
          have j0 : (k : Int) + 1 ≤ 12 := by omega
          have j1 : (0 : Int) ≤ k + 1 := by omega
          have t1 : ((k : Int) + 1).toNat = k + 1 := by omega
          clear eT htx hTz hTm hc hcS hlen
          obtain ⟨q, hq⟩ : ∃ q, decide (T = s) = q := ⟨_, rfl⟩
          obtain ⟨r, hr⟩ : ∃ r, rightB T = r := ⟨_, rfl⟩
          have hok2 : okM s k c = (!q && r) := by rw [hok, hr, ← hq]; simp
          rw [hq] at hst
          rw [hr] at hR
          rw [hok2] at hnx hnew
          have hbs3 := hset.lt
          clear hok hok2 hq hr
          cases q with
          | true =>
            have hnx2 := Lib.hid (show mendP s chars k (m + 1) = mendP s chars k m by have := hnx.out; simpa using this)
            clear hnx hnew hR hTM HCA
            go_wp2
            go_region
            go_wp2
            go_roundw
            case rel => exact ⟨m + 1, n', by omega, by omega, by go_num, by rw [hnx2.out]; exact hset.next (by (repeat' first | exact Below.refl _ _ | (with_reducible assumption) | (with_reducible refine bAlloc (by first | omega | (simp <;> omega)) ?_) | (with_reducible refine bSet (by first | omega | (simp <;> omega)) ?_) | (with_reducible refine bDrew ?_) | (with_reducible refine bDrewN ?_) | (with_reducible refine bTrans (by with_reducible assumption) (by first | omega | (simp <;> omega)) ?_))), by (repeat' first | exact Below.refl _ _ | (with_reducible assumption) | (with_reducible refine bAlloc (by first | omega | (simp <;> omega)) ?_) | (with_reducible refine bSet (by first | omega | (simp <;> omega)) ?_) | (with_reducible refine bDrew ?_) | (with_reducible refine bDrewN ?_) | (with_reducible refine bTrans (by with_reducible assumption) (by first | omega | (simp <;> omega)) ?_)), hby.next (by (repeat' first | exact Below.refl _ _ | (with_reducible assumption) | (with_reducible refine bAlloc (by first | omega | (simp <;> omega)) ?_) | (with_reducible refine bSet (by first | omega | (simp <;> omega)) ?_) | (with_reducible refine bDrew ?_) | (with_reducible refine bDrewN ?_) | (with_reducible refine bTrans (by with_reducible assumption) (by first | omega | (simp <;> omega)) ?_)))⟩
            case measure => simp [intOf]; omega
          | false =>
            cases r with
            | false =>
              have hnx2 := Lib.hid (show mendP s chars k (m + 1) = mendP s chars k m by have := hnx.out; simpa using this)
              clear hnx hnew hTM HCA
              go_wp2
              go_region
              go_wp2_with (go_at_call 15; (with_reducible refine (hR _).mono ?_); rintro e w1 ⟨rfl, hxb⟩; (have hb1 : Below wr.heap.size wr w1 := (by (repeat' first | exact Below.refl _ _ | (with_reducible assumption) | (with_reducible refine bAlloc (by first | omega | (simp <;> omega)) ?_) | (with_reducible refine bSet (by first | omega | (simp <;> omega)) ?_) | (with_reducible refine bDrew ?_) | (with_reducible refine bDrewN ?_) | (with_reducible refine bTrans (by with_reducible assumption) (by first | omega | (simp <;> omega)) ?_)))); have hs1 := hset.next hb1; have hy1 := hby.next hb1; (have hB1 : Below w.heap.size w w1 := (by (repeat' first | exact Below.refl _ _ | (with_reducible assumption) | (with_reducible refine bAlloc (by first | omega | (simp <;> omega)) ?_) | (with_reducible refine bSet (by first | omega | (simp <;> omega)) ?_) | (with_reducible refine bDrew ?_) | (with_reducible refine bDrewN ?_) | (with_reducible refine bTrans (by with_reducible assumption) (by first | omega | (simp <;> omega)) ?_)))); (have hz1 := hb1.size); clear hxb hb1)
              go_roundw
              case rel => exact ⟨m + 1, n', by omega, by omega, by go_num, by rw [hnx2.out]; exact hs1, hB1, hy1⟩
              case measure => simp [intOf]; omega
            | true =>
              have hnx2 := Lib.hid (show mendP s chars k (m + 1) = mendP s chars k m ++ [T.data.toList] by have := hnx.out; simpa using this)
              have hnew2 := Lib.hid (hnew.out rfl)
              clear hnx hnew HCA
              go_wp2
              go_region
              go_wp2_with (first | (go_at_call 15; (with_reducible refine (hR _).mono ?_); rintro e w1 ⟨rfl, hxb⟩; (have hb1 : Below wr.heap.size wr w1 := (by (repeat' first | exact Below.refl _ _ | (with_reducible assumption) | (with_reducible refine bAlloc (by first | omega | (simp <;> omega)) ?_) | (with_reducible refine bSet (by first | omega | (simp <;> omega)) ?_) | (with_reducible refine bDrew ?_) | (with_reducible refine bDrewN ?_) | (with_reducible refine bTrans (by with_reducible assumption) (by first | omega | (simp <;> omega)) ?_)))); have hs1 := hset.next hb1; have hy1 := hby.next hb1; (have hB1 : Below w.heap.size w w1 := (by (repeat' first | exact Below.refl _ _ | (with_reducible assumption) | (with_reducible refine bAlloc (by first | omega | (simp <;> omega)) ?_) | (with_reducible refine bSet (by first | omega | (simp <;> omega)) ?_) | (with_reducible refine bDrew ?_) | (with_reducible refine bDrewN ?_) | (with_reducible refine bTrans (by with_reducible assumption) (by first | omega | (simp <;> omega)) ?_)))); (have hz1 := hb1.size); clear hxb hb1) | (refine wpList_put (by rfl) _ _ _ (by rfl) w.heap.size n' _ (by rfl) hs1 (by unfold maxLen; omega) T hTM.out (by rfl) (by rfl) ?_; intro w3 hs3 hg3; (have hB3 : Below w.heap.size w w3 := bGrown hg3 (by omega) (fun q hq => by injection hq with hq; omega) hB1); have hy3 := hy1.grown hg3 hne))
              go_roundw
              case rel => exact ⟨m + 1, n' + 1, by omega, by omega, by go_num, by rw [hnx2.out]; rw [if_neg hnew2.out] at hs3; exact hs3, hB3, hy3⟩
              case measure => simp [intOf]; omega
        · obtain rfl : m = S.size := by omega
          have hrow := Lib.hid (mendP_row s chars k S.size (by rw [HCS.out]; exact Nat.le_refl _))
          clear HCA
          go_wp2
          go_roundw
          case rel => exact ⟨k + 1, n', by omega, by omega, by go_num, by rw [← hrow.out]; exact hset, hB⟩
          case measure => simp [intOf]; omega
    · obtain rfl : k = 12 := by omega
      rw [mendP_all] at hset
      have hz9 := hB.size
      have hl : ((mendL s).mergeSort leB).length = (mendL s).length := List.length_mergeSort _
      go_wp2_with (first | (go_at_call 38; (with_reducible refine (keysW _ _).mono ?_); rintro e w1 ⟨rfl, rfl⟩) | (go_at_call 37; (with_reducible refine (sortedW hset (by omega)).mono ?_); rintro e w1 ⟨A, c, rfl, ho, hb⟩))
      go_ret
      rw [← hl] at ho ⊢
      exact ⟨A, c, rfl, Sl.of_own rfl ho, by (repeat' first | exact Below.refl _ _ | (with_reducible assumption) | (with_reducible refine bAlloc (by first | omega | (simp <;> omega)) ?_) | (with_reducible refine bSet (by first | omega | (simp <;> omega)) ?_) | (with_reducible refine bDrew ?_) | (with_reducible refine bDrewN ?_) | (with_reducible refine bTrans (by with_reducible assumption) (by first | omega | (simp <;> omega)) ?_))⟩
end Go.Proofs.YtjohlbpahaklkaaDoor
