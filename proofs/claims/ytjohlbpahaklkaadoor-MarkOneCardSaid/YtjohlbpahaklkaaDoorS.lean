/-
  Marks: the reference's list functions, walked.
-/
import Derived.Test.YtjohlbpahaklkaaDoorR
namespace Go.Proofs.YtjohlbpahaklkaaDoor
set_option linter.unusedVariables false
set_option linter.unusedSimpArgs false
open Go.RowKit Go.Sort

def sameFrom (a b : List (List UInt8)) (k : Nat) : Bool := decide (a.drop k = b.drop k)
theorem sameFrom_step (a b : List (List UInt8)) (k : Nat) (h : k < a.length) (h' : k < b.length) : sameFrom a b k = (decide (a[k] = b[k]) && sameFrom a b (k + 1)) := by
  unfold sameFrom
  rw [List.drop_eq_getElem_cons h, List.drop_eq_getElem_cons h', Bool.eq_iff_iff]
  simp only [decide_eq_true_eq, Bool.and_eq_true, List.cons.injEq]
set_option maxHeartbeats 1000000 in
theorem sameW (A A' : Option Addr) (c c' : Nat) (l l' : List (List UInt8)) (w : World) (hr : RowS w A l) (hr' : RowS w A' l') (hl : l.length ≤ 1000000) (hl' : l'.length ≤ 1000000) :
    Calls Tryd.prog 24 #[.slice A l.length c, .slice A' l'.length c'] w fun e w' => e = .returned (.bool (decide (l = l'))) ∧ Below w.heap.size w w' := by
  by_cases hm : l.length = l'.length
  · have hm1 : ((l.length : Int) == (l'.length : Int)) = true := by simp; exact_mod_cast hm
    have hm2 : ((l.length : Int) != (l'.length : Int)) = false := by simp; exact_mod_cast hm
    have Hm := Lib.hid hm
    clear hm
    go_enter Tryd.func24, Tryd.ntmps24
    go_wp2
    go_loopw [5] (fun i wr => ∃ k : Nat, k ≤ l.length ∧ i = .int .i64 k ∧ Below w.heap.size w wr ∧ Hid (sameFrom l l' k = sameFrom l l' 0)) (fun i _ => l.length - (intOf i).toNat)
    case atStart => exact ⟨0, Nat.zero_le _, rfl, Below.refl _ _, Lib.hid rfl⟩
    case round =>
      obtain ⟨k, hk, rfl, hB0, hq⟩ := hrel
      have hz0 := hB0.size
      by_cases hlt : k < l.length
      · have hlt' : k < l'.length := by have := Hm.out; omega
        have hn := Lib.hid (sameFrom_step l l' k hlt hlt')
        obtain ⟨ad, rfl, hb, h1⟩ := (hr.next hB0).at_ hlt
        obtain ⟨ad', rfl, hb', h1'⟩ := (hr'.next hB0).at_ hlt'
        obtain ⟨X, hX⟩ : ∃ X : ByteArray, (⟨l[k].toArray⟩ : ByteArray) = X := ⟨_, rfl⟩
        obtain ⟨Y, hY⟩ : ∃ Y : ByteArray, (⟨l'[k].toArray⟩ : ByteArray) = Y := ⟨_, rfl⟩
        have hst := str_eqB X Y
        have hxy : decide (X = Y) = decide (l[k] = l'[k]) := by
          subst hX hY
          rw [Bool.eq_iff_iff]
          simp
        rw [hX] at h1
        rw [hY] at h1'
        rw [hxy] at hst
        obtain ⟨q, hq2⟩ : ∃ q, decide (l[k] = l'[k]) = q := ⟨_, rfl⟩
        rw [hq2] at hst
        have hn2 := Lib.hid (show sameFrom l l' k = (q && sameFrom l l' (k + 1)) by rw [hn.out, hq2])
        clear hn hX hY hxy hq2 hr hr'
        cases q
        all_goals
          go_wp2
          go_quiet (fail)
          go_wp2
          first
            | (go_ret
               refine ⟨ret_bool ?_, by (repeat' first | exact Below.refl _ _ | (with_reducible assumption) | (with_reducible refine bAlloc (by first | omega | (simp <;> omega)) ?_) | (with_reducible refine bSet (by first | omega | (simp <;> omega)) ?_) | (with_reducible refine bDrew ?_) | (with_reducible refine bDrewN ?_) | (with_reducible refine bTrans (by with_reducible assumption) (by first | omega | (simp <;> omega)) ?_))⟩
               have a := hn2.out
               have b := hq.out
               rw [a] at b
               unfold sameFrom at b
               simpa using b)
            | (go_roundw
               case rel => exact ⟨k + 1, by omega, by go_num, by (repeat' first | exact Below.refl _ _ | (with_reducible assumption) | (with_reducible refine bAlloc (by first | omega | (simp <;> omega)) ?_) | (with_reducible refine bSet (by first | omega | (simp <;> omega)) ?_) | (with_reducible refine bDrew ?_) | (with_reducible refine bDrewN ?_) | (with_reducible refine bTrans (by with_reducible assumption) (by first | omega | (simp <;> omega)) ?_)), Lib.hid (by have a := hn2.out; have b := hq.out; rw [← b, a]; rfl)⟩
               case measure => simp [intOf]; omega)
      · have he := Lib.hid (show sameFrom l l' k = true by unfold sameFrom; rw [List.drop_eq_nil_of_le (by omega), List.drop_eq_nil_of_le (by have := Hm.out; omega)]; simp)
        go_wp2
        go_ret
        refine ⟨ret_bool ?_, by (repeat' first | exact Below.refl _ _ | (with_reducible assumption) | (with_reducible refine bAlloc (by first | omega | (simp <;> omega)) ?_) | (with_reducible refine bSet (by first | omega | (simp <;> omega)) ?_) | (with_reducible refine bDrew ?_) | (with_reducible refine bDrewN ?_) | (with_reducible refine bTrans (by with_reducible assumption) (by first | omega | (simp <;> omega)) ?_))⟩
        have a := he.out
        have b := hq.out
        rw [a] at b
        unfold sameFrom at b
        simpa using b
  · have hm1 : ((l.length : Int) == (l'.length : Int)) = false := by simp; omega
    have hm2 : ((l.length : Int) != (l'.length : Int)) = true := by simp; omega
    have he := Lib.hid (show decide (l = l') = false from decide_eq_false (fun e => hm (by rw [e])))
    clear hm
    go_enter Tryd.func24, Tryd.ntmps24
    go_wp2
    go_ret
    rw [he.out]
    exact ⟨rfl, by (repeat' first | exact Below.refl _ _ | (with_reducible assumption) | (with_reducible refine bAlloc (by first | omega | (simp <;> omega)) ?_) | (with_reducible refine bSet (by first | omega | (simp <;> omega)) ?_) | (with_reducible refine bDrew ?_) | (with_reducible refine bDrewN ?_) | (with_reducible refine bTrans (by with_reducible assumption) (by first | omega | (simp <;> omega)) ?_))⟩
theorem put_fin {w w4 : World} {l : List (List UInt8)} {s : ByteArray} {k c8 : Nat} {A8 : Option Addr} (hp : putL l s.data.toList = l.take k ++ s.data.toList :: l.drop k)
    (ho : w4.ownsRow w.heap.size 9 1 (.slice A8 (l.length + 1) c8) (l.length + 1) ([] ++ (l.map encStr).take (k * 1) ++ [.string s] ++ (l.map encStr).drop (k * 1))) (hB : Below w.heap.size w w4) : RetL w (putL l s.data.toList) (.returned (.slice A8 (l.length + 1) c8)) w4 := by
  have hl : (putL l s.data.toList).length = l.length + 1 := by rw [(putL_perm l s.data.toList).length_eq]; simp
  have e : [] ++ (l.map encStr).take (k * 1) ++ [.string s] ++ (l.map encStr).drop (k * 1) = (putL l s.data.toList).map encStr := by
    rw [hp]
    simp [encS]
  rw [e] at ho
  exact ⟨A8, c8, by rw [hl], Sl.of_own hl ho, hB⟩
set_option maxHeartbeats 4000000 in
set_option maxRecDepth 100000 in
theorem putW (l : List (List UInt8)) (A : Option Addr) (c : Nat) (s : ByteArray) (w : World) (hsl : Sl w A c l) (hl : l.length ≤ 1000000) :
    Calls Tryd.prog 39 #[.slice A l.length c, .string s] w (RetL w (putL l s.data.toList)) := by
  obtain ⟨hr, hc, hcm, hA⟩ := hsl
  unfold maxLen at hcm
  go_enter Tryd.func39, Tryd.ntmps39
  go_wp2
  go_loop [5] (fun i => ∃ k : Nat, k ≤ l.length ∧ i = .int .i64 k ∧ Hid (∀ y ∈ l.take k, y < s.data.toList)) (fun i => l.length - (intOf i).toNat)
  case atStart => exact ⟨0, Nat.zero_le _, rfl, Lib.hid (by simp)⟩
  case round =>
    obtain ⟨k, hk, rfl, hq⟩ := hrel
    by_cases hgo : ∃ h : k < l.length, l[k] < s.data.toList
    · obtain ⟨hlt, hles⟩ := hgo
      obtain ⟨ad, rfl, hb, h1⟩ := hr.at_ hlt
      obtain ⟨X, hX⟩ : ∃ X : ByteArray, (⟨l[k].toArray⟩ : ByteArray) = X := ⟨_, rfl⟩
      have hle := less_eq X s
      rw [show decide (X.data.toList < s.data.toList) = true by rw [← hX]; simpa using hles] at hle
      rw [hX] at h1
      have hq2 := Lib.hid (show ∀ y ∈ l.take (k + 1), y < s.data.toList by
        intro y hy
        rw [List.take_succ_eq_append_getElem hlt, List.mem_append] at hy
        rcases hy with hy | hy
        · exact hq.out y hy
        · rw [List.mem_singleton] at hy; rw [hy]; exact hles)
      clear hX hq hA hr hles
      go_wp2
      go_round
      case rel => exact ⟨k + 1, by omega, by go_num, hq2⟩
      case measure => simp [intOf]; omega
    · have hp := Lib.hid (putL_split hq.out (fun h h2 => hgo ⟨h, h2⟩))
      have hI : Ins Tryd.prog w 9 1 A l.length k c (l.map encStr) [.string s] := ⟨hk, hc, hr, rfl⟩
      have h1c := one_strs l
      have hxc : ∀ u ∈ [Value.string s], u.oneCell' = true := by simp [Value.oneCell']
      have hoA := own_empty w 9 1
      have hoB := own_emptyB w 9 1 (.cells #[.string s] 9)
      have hoC := own_emptyC w 9 1 (.cells #[.string s] 9)
      have hnB := new_B w 9 1 [.string s] rfl
      have hnC := new_C w 9 1 [.string s] rfl
      have hnA := fun W => new_A W 9 1 [.string s] rfl
      have tok1 : True := trivial
      by_cases hlt : k < l.length
      · obtain ⟨ad, hAd, hb, h1⟩ := hr.at_ hlt
        subst hAd
        obtain ⟨X, hX⟩ : ∃ X : ByteArray, (⟨l[k].toArray⟩ : ByteArray) = X := ⟨_, rfl⟩
        have hle := less_eq X s
        rw [show decide (X.data.toList < s.data.toList) = false by rw [← hX]; simpa using fun h => hgo ⟨hlt, h⟩] at hle
        rw [hX] at h1
        clear hX hq hgo
        have HP := hp
        have b0 : (0 : Int) ≤ (k : Int) := by omega
        have b1 : (k : Int) ≤ (c : Int) := by omega
        have b2 : (k : Int) ≤ (l.length : Int) := by omega
        have b3 : (l.length : Int) ≤ (c : Int) := by omega
        have hbk : ∀ W, Below w.heap.size w W → Rd W W.heap.size 1 (if c = k then some ad else some (ad.add k)) (l.length - k) ((l.map encStr).drop (k * 1)) := fun W h => by simpa using hI.back h
        have hbn : (if c = k then some ad else some (ad.add k)) = none → l.length - k = 0 ∧ c - k = 0 := fun e => by split at e <;> cases e
        go_wp2
        go_region_held3 (fun _ => True) (trivial)
          (first
            | (have _t := tok1; refine step_app elemS (by rfl) (.tmp 20) (.tmp 23) (by rfl) w.heap.size (.slice (some ⟨w.heap.size, 0, none⟩) 0 0) 0 [] (by rfl) hoA _ k c _ (by rfl) (hI.front (by (repeat' first | exact Below.refl _ _ | (with_reducible assumption) | (with_reducible refine bAlloc (by first | omega | (simp <;> omega)) ?_) | (with_reducible refine bSet (by first | omega | (simp <;> omega)) ?_) | (with_reducible refine bDrew ?_) | (with_reducible refine bDrewN ?_) | (with_reducible refine bTrans (by with_reducible assumption) (by first | omega | (simp <;> omega)) ?_)))) (nil_take hA hI.hk) (one_sub h1c _).1 (by unfold maxLen; omega) (by omega) (by first | omega | (simp <;> omega)) k (Nat.zero_add _) ?_; (intro A1 c1 w2 hown1 hgrow; clear tok1; have tokA : True := trivial; (have hB2 : Below w.heap.size w w2 := bGrown hgrow (by first | omega | (simp <;> omega)) (fun k hk => by simp [Value.ownBlock] at hk; omega) (by (repeat' first | exact Below.refl _ _ | (with_reducible assumption) | (with_reducible refine bAlloc (by first | omega | (simp <;> omega)) ?_) | (with_reducible refine bSet (by first | omega | (simp <;> omega)) ?_) | (with_reducible refine bDrew ?_) | (with_reducible refine bDrewN ?_) | (with_reducible refine bTrans (by with_reducible assumption) (by first | omega | (simp <;> omega)) ?_)))); have hz2 : w.heap.size ≤ w2.heap.size := hB2.size))
            | (have _t := tok1; refine step_app elemS (by rfl) (.tmp 20) (.tmp 23) (by rfl) w.heap.size (.slice (some ⟨w.heap.size, 0, none⟩) 0 0) 0 [] (by rfl) hoB _ k c _ (by rfl) (hI.front (by (repeat' first | exact Below.refl _ _ | (with_reducible assumption) | (with_reducible refine bAlloc (by first | omega | (simp <;> omega)) ?_) | (with_reducible refine bSet (by first | omega | (simp <;> omega)) ?_) | (with_reducible refine bDrew ?_) | (with_reducible refine bDrewN ?_) | (with_reducible refine bTrans (by with_reducible assumption) (by first | omega | (simp <;> omega)) ?_)))) (nil_take hA hI.hk) (one_sub h1c _).1 (by unfold maxLen; omega) (by omega) (by first | omega | (simp <;> omega)) k (Nat.zero_add _) ?_; (intro A1 c1 w2 hown1 hgrow; clear tok1; have tokB : True := trivial; have hnw := hnB.grown hgrow (by rintro ad h; cases h; simp [Value.ownBlock]); (have hB2 : Below w.heap.size w w2 := bGrown hgrow (by first | omega | (simp <;> omega)) (fun k hk => by simp [Value.ownBlock] at hk; omega) (by (repeat' first | exact Below.refl _ _ | (with_reducible assumption) | (with_reducible refine bAlloc (by first | omega | (simp <;> omega)) ?_) | (with_reducible refine bSet (by first | omega | (simp <;> omega)) ?_) | (with_reducible refine bDrew ?_) | (with_reducible refine bDrewN ?_) | (with_reducible refine bTrans (by with_reducible assumption) (by first | omega | (simp <;> omega)) ?_)))); have hz2 : w.heap.size ≤ w2.heap.size := hB2.size))
            | (have _t := tok1; refine step_app elemS (by rfl) (.tmp 20) (.tmp 23) (by rfl) w.heap.size (.slice (some ⟨w.heap.size + 1, 0, none⟩) 0 0) 0 [] (by rfl) hoC _ k c _ (by rfl) (hI.front (by (repeat' first | exact Below.refl _ _ | (with_reducible assumption) | (with_reducible refine bAlloc (by first | omega | (simp <;> omega)) ?_) | (with_reducible refine bSet (by first | omega | (simp <;> omega)) ?_) | (with_reducible refine bDrew ?_) | (with_reducible refine bDrewN ?_) | (with_reducible refine bTrans (by with_reducible assumption) (by first | omega | (simp <;> omega)) ?_)))) (nil_take hA hI.hk) (one_sub h1c _).1 (by unfold maxLen; omega) (by omega) (by first | omega | (simp <;> omega)) k (Nat.zero_add _) ?_; (intro A1 c1 w2 hown1 hgrow; clear tok1; have tokC : True := trivial; have hnw := hnC.grown hgrow (by rintro ad h; cases h; simp [Value.ownBlock]); (have hB2 : Below w.heap.size w w2 := bGrown hgrow (by first | omega | (simp <;> omega)) (fun k hk => by simp [Value.ownBlock] at hk; omega) (by (repeat' first | exact Below.refl _ _ | (with_reducible assumption) | (with_reducible refine bAlloc (by first | omega | (simp <;> omega)) ?_) | (with_reducible refine bSet (by first | omega | (simp <;> omega)) ?_) | (with_reducible refine bDrew ?_) | (with_reducible refine bDrewN ?_) | (with_reducible refine bTrans (by with_reducible assumption) (by first | omega | (simp <;> omega)) ?_)))); have hz2 : w.heap.size ≤ w2.heap.size := hB2.size))
            | (have _t := tokA; refine step_app elemS (by rfl) (.tmp 24) (.tmp 26) (by rfl) w.heap.size (.slice A1 k c1) k _ (by rfl) (hown1.alloc _) (some ⟨w2.heap.size, 0, none⟩) 1 1 _ (by rfl) (by first | (with_reducible assumption) | exact hnA _) (fun h => by cases h) hxc (by unfold maxLen; omega) (by omega) (by first | omega | (simp <;> omega)) (k + 1) rfl ?_; clear tokA; (intro A9 c9 w3 hown2 hgrow2; have tokD : True := trivial; (have hB3 : Below w.heap.size w w3 := bGrown hgrow2 (by first | omega | (simp <;> omega)) (fun k hk => (hown1.lt k hk).1) (by (repeat' first | exact Below.refl _ _ | (with_reducible assumption) | (with_reducible refine bAlloc (by first | omega | (simp <;> omega)) ?_) | (with_reducible refine bSet (by first | omega | (simp <;> omega)) ?_) | (with_reducible refine bDrew ?_) | (with_reducible refine bDrewN ?_) | (with_reducible refine bTrans (by with_reducible assumption) (by first | omega | (simp <;> omega)) ?_)))); have hz3 : w.heap.size ≤ w3.heap.size := hB3.size))
            | (have _t := tokB; refine step_app elemS (by rfl) (.tmp 24) (.tmp 26) (by rfl) w.heap.size (.slice A1 k c1) k _ (by rfl) hown1 (some ⟨w.heap.size + 1, 0, none⟩) 1 1 _ (by rfl) (by first | (with_reducible assumption) | exact hnA _) (fun h => by cases h) hxc (by unfold maxLen; omega) (by omega) (by first | omega | (simp <;> omega)) (k + 1) rfl ?_; clear tokB; (intro A9 c9 w3 hown2 hgrow2; have tokD : True := trivial; (have hB3 : Below w.heap.size w w3 := bGrown hgrow2 (by first | omega | (simp <;> omega)) (fun k hk => (hown1.lt k hk).1) (by (repeat' first | exact Below.refl _ _ | (with_reducible assumption) | (with_reducible refine bAlloc (by first | omega | (simp <;> omega)) ?_) | (with_reducible refine bSet (by first | omega | (simp <;> omega)) ?_) | (with_reducible refine bDrew ?_) | (with_reducible refine bDrewN ?_) | (with_reducible refine bTrans (by with_reducible assumption) (by first | omega | (simp <;> omega)) ?_)))); have hz3 : w.heap.size ≤ w3.heap.size := hB3.size))
            | (have _t := tokC; refine step_app elemS (by rfl) (.tmp 24) (.tmp 26) (by rfl) w.heap.size (.slice A1 k c1) k _ (by rfl) hown1 (some ⟨w.heap.size, 0, none⟩) 1 1 _ (by rfl) (by first | (with_reducible assumption) | exact hnA _) (fun h => by cases h) hxc (by unfold maxLen; omega) (by omega) (by first | omega | (simp <;> omega)) (k + 1) rfl ?_; clear tokC; (intro A9 c9 w3 hown2 hgrow2; have tokD : True := trivial; (have hB3 : Below w.heap.size w w3 := bGrown hgrow2 (by first | omega | (simp <;> omega)) (fun k hk => (hown1.lt k hk).1) (by (repeat' first | exact Below.refl _ _ | (with_reducible assumption) | (with_reducible refine bAlloc (by first | omega | (simp <;> omega)) ?_) | (with_reducible refine bSet (by first | omega | (simp <;> omega)) ?_) | (with_reducible refine bDrew ?_) | (with_reducible refine bDrewN ?_) | (with_reducible refine bTrans (by with_reducible assumption) (by first | omega | (simp <;> omega)) ?_)))); have hz3 : w.heap.size ≤ w3.heap.size := hB3.size))
            | (have _t := tokD; refine step_app elemS (by rfl) (.tmp 27) (.tmp 30) (by rfl) w.heap.size (.slice A9 (k + 1) c9) (k + 1) _ (by rfl) hown2 _ (l.length - k) (c - k) _ (by rfl) (hbk _ hB3) hbn (one_sub h1c _).2 (by unfold maxLen; omega) (by omega) (by first | omega | (simp <;> omega)) (l.length + 1) (by omega) ?_; clear tokD; (intro A8 c8 w4 hown3 hgrow3; (have hB4 : Below w.heap.size w w4 := bGrown hgrow3 hB3.size (fun k hk => (hown2.lt k hk).1) hB3))))
        all_goals
          go_wp2
          all_goals (go_ret; exact put_fin hp.out hown3 hB4)
      · have hkl : k = l.length := by omega
        have b0 : (0 : Int) ≤ (k : Int) := by omega
        have b1 : (k : Int) ≤ (c : Int) := by omega
        have b2 : (k : Int) ≤ (l.length : Int) := by omega
        have b3 : (l.length : Int) ≤ (c : Int) := by omega
        have b4 : (l.length : Int) ≤ (k : Int) := by omega
        have hbk : ∀ W, Below w.heap.size w W → Rd W W.heap.size 1 (if c = k then A else Option.map (fun x => x.add k) A) (l.length - k) ((l.map encStr).drop (k * 1)) := fun W h => by simpa using hI.back h
        have hbn : (if c = k then A else Option.map (fun x => x.add k) A) = none → l.length - k = 0 ∧ c - k = 0 := fun e => by have := nil_drop (sz := 1) hA hk (c := c) (by simpa using e); exact this
        clear hkl hgo hq
        go_wp2
        go_region_held3 (fun _ => True) (trivial)
          (first
            | (have _t := tok1; refine step_app elemS (by rfl) (.tmp 20) (.tmp 23) (by rfl) w.heap.size (.slice (some ⟨w.heap.size, 0, none⟩) 0 0) 0 [] (by rfl) hoA _ k c _ (by rfl) (hI.front (by (repeat' first | exact Below.refl _ _ | (with_reducible assumption) | (with_reducible refine bAlloc (by first | omega | (simp <;> omega)) ?_) | (with_reducible refine bSet (by first | omega | (simp <;> omega)) ?_) | (with_reducible refine bDrew ?_) | (with_reducible refine bDrewN ?_) | (with_reducible refine bTrans (by with_reducible assumption) (by first | omega | (simp <;> omega)) ?_)))) (nil_take hA hI.hk) (one_sub h1c _).1 (by unfold maxLen; omega) (by omega) (by first | omega | (simp <;> omega)) k (Nat.zero_add _) ?_; (intro A1 c1 w2 hown1 hgrow; clear tok1; have tokA : True := trivial; (have hB2 : Below w.heap.size w w2 := bGrown hgrow (by first | omega | (simp <;> omega)) (fun k hk => by simp [Value.ownBlock] at hk; omega) (by (repeat' first | exact Below.refl _ _ | (with_reducible assumption) | (with_reducible refine bAlloc (by first | omega | (simp <;> omega)) ?_) | (with_reducible refine bSet (by first | omega | (simp <;> omega)) ?_) | (with_reducible refine bDrew ?_) | (with_reducible refine bDrewN ?_) | (with_reducible refine bTrans (by with_reducible assumption) (by first | omega | (simp <;> omega)) ?_)))); have hz2 : w.heap.size ≤ w2.heap.size := hB2.size))
            | (have _t := tok1; refine step_app elemS (by rfl) (.tmp 20) (.tmp 23) (by rfl) w.heap.size (.slice (some ⟨w.heap.size, 0, none⟩) 0 0) 0 [] (by rfl) hoB _ k c _ (by rfl) (hI.front (by (repeat' first | exact Below.refl _ _ | (with_reducible assumption) | (with_reducible refine bAlloc (by first | omega | (simp <;> omega)) ?_) | (with_reducible refine bSet (by first | omega | (simp <;> omega)) ?_) | (with_reducible refine bDrew ?_) | (with_reducible refine bDrewN ?_) | (with_reducible refine bTrans (by with_reducible assumption) (by first | omega | (simp <;> omega)) ?_)))) (nil_take hA hI.hk) (one_sub h1c _).1 (by unfold maxLen; omega) (by omega) (by first | omega | (simp <;> omega)) k (Nat.zero_add _) ?_; (intro A1 c1 w2 hown1 hgrow; clear tok1; have tokB : True := trivial; have hnw := hnB.grown hgrow (by rintro ad h; cases h; simp [Value.ownBlock]); (have hB2 : Below w.heap.size w w2 := bGrown hgrow (by first | omega | (simp <;> omega)) (fun k hk => by simp [Value.ownBlock] at hk; omega) (by (repeat' first | exact Below.refl _ _ | (with_reducible assumption) | (with_reducible refine bAlloc (by first | omega | (simp <;> omega)) ?_) | (with_reducible refine bSet (by first | omega | (simp <;> omega)) ?_) | (with_reducible refine bDrew ?_) | (with_reducible refine bDrewN ?_) | (with_reducible refine bTrans (by with_reducible assumption) (by first | omega | (simp <;> omega)) ?_)))); have hz2 : w.heap.size ≤ w2.heap.size := hB2.size))
            | (have _t := tok1; refine step_app elemS (by rfl) (.tmp 20) (.tmp 23) (by rfl) w.heap.size (.slice (some ⟨w.heap.size + 1, 0, none⟩) 0 0) 0 [] (by rfl) hoC _ k c _ (by rfl) (hI.front (by (repeat' first | exact Below.refl _ _ | (with_reducible assumption) | (with_reducible refine bAlloc (by first | omega | (simp <;> omega)) ?_) | (with_reducible refine bSet (by first | omega | (simp <;> omega)) ?_) | (with_reducible refine bDrew ?_) | (with_reducible refine bDrewN ?_) | (with_reducible refine bTrans (by with_reducible assumption) (by first | omega | (simp <;> omega)) ?_)))) (nil_take hA hI.hk) (one_sub h1c _).1 (by unfold maxLen; omega) (by omega) (by first | omega | (simp <;> omega)) k (Nat.zero_add _) ?_; (intro A1 c1 w2 hown1 hgrow; clear tok1; have tokC : True := trivial; have hnw := hnC.grown hgrow (by rintro ad h; cases h; simp [Value.ownBlock]); (have hB2 : Below w.heap.size w w2 := bGrown hgrow (by first | omega | (simp <;> omega)) (fun k hk => by simp [Value.ownBlock] at hk; omega) (by (repeat' first | exact Below.refl _ _ | (with_reducible assumption) | (with_reducible refine bAlloc (by first | omega | (simp <;> omega)) ?_) | (with_reducible refine bSet (by first | omega | (simp <;> omega)) ?_) | (with_reducible refine bDrew ?_) | (with_reducible refine bDrewN ?_) | (with_reducible refine bTrans (by with_reducible assumption) (by first | omega | (simp <;> omega)) ?_)))); have hz2 : w.heap.size ≤ w2.heap.size := hB2.size))
            | (have _t := tokA; refine step_app elemS (by rfl) (.tmp 24) (.tmp 26) (by rfl) w.heap.size (.slice A1 k c1) k _ (by rfl) (hown1.alloc _) (some ⟨w2.heap.size, 0, none⟩) 1 1 _ (by rfl) (by first | (with_reducible assumption) | exact hnA _) (fun h => by cases h) hxc (by unfold maxLen; omega) (by omega) (by first | omega | (simp <;> omega)) (k + 1) rfl ?_; clear tokA; (intro A9 c9 w3 hown2 hgrow2; have tokD : True := trivial; (have hB3 : Below w.heap.size w w3 := bGrown hgrow2 (by first | omega | (simp <;> omega)) (fun k hk => (hown1.lt k hk).1) (by (repeat' first | exact Below.refl _ _ | (with_reducible assumption) | (with_reducible refine bAlloc (by first | omega | (simp <;> omega)) ?_) | (with_reducible refine bSet (by first | omega | (simp <;> omega)) ?_) | (with_reducible refine bDrew ?_) | (with_reducible refine bDrewN ?_) | (with_reducible refine bTrans (by with_reducible assumption) (by first | omega | (simp <;> omega)) ?_)))); have hz3 : w.heap.size ≤ w3.heap.size := hB3.size))
            | (have _t := tokB; refine step_app elemS (by rfl) (.tmp 24) (.tmp 26) (by rfl) w.heap.size (.slice A1 k c1) k _ (by rfl) hown1 (some ⟨w.heap.size + 1, 0, none⟩) 1 1 _ (by rfl) (by first | (with_reducible assumption) | exact hnA _) (fun h => by cases h) hxc (by unfold maxLen; omega) (by omega) (by first | omega | (simp <;> omega)) (k + 1) rfl ?_; clear tokB; (intro A9 c9 w3 hown2 hgrow2; have tokD : True := trivial; (have hB3 : Below w.heap.size w w3 := bGrown hgrow2 (by first | omega | (simp <;> omega)) (fun k hk => (hown1.lt k hk).1) (by (repeat' first | exact Below.refl _ _ | (with_reducible assumption) | (with_reducible refine bAlloc (by first | omega | (simp <;> omega)) ?_) | (with_reducible refine bSet (by first | omega | (simp <;> omega)) ?_) | (with_reducible refine bDrew ?_) | (with_reducible refine bDrewN ?_) | (with_reducible refine bTrans (by with_reducible assumption) (by first | omega | (simp <;> omega)) ?_)))); have hz3 : w.heap.size ≤ w3.heap.size := hB3.size))
            | (have _t := tokC; refine step_app elemS (by rfl) (.tmp 24) (.tmp 26) (by rfl) w.heap.size (.slice A1 k c1) k _ (by rfl) hown1 (some ⟨w.heap.size, 0, none⟩) 1 1 _ (by rfl) (by first | (with_reducible assumption) | exact hnA _) (fun h => by cases h) hxc (by unfold maxLen; omega) (by omega) (by first | omega | (simp <;> omega)) (k + 1) rfl ?_; clear tokC; (intro A9 c9 w3 hown2 hgrow2; have tokD : True := trivial; (have hB3 : Below w.heap.size w w3 := bGrown hgrow2 (by first | omega | (simp <;> omega)) (fun k hk => (hown1.lt k hk).1) (by (repeat' first | exact Below.refl _ _ | (with_reducible assumption) | (with_reducible refine bAlloc (by first | omega | (simp <;> omega)) ?_) | (with_reducible refine bSet (by first | omega | (simp <;> omega)) ?_) | (with_reducible refine bDrew ?_) | (with_reducible refine bDrewN ?_) | (with_reducible refine bTrans (by with_reducible assumption) (by first | omega | (simp <;> omega)) ?_)))); have hz3 : w.heap.size ≤ w3.heap.size := hB3.size))
            | (have _t := tokD; refine step_app elemS (by rfl) (.tmp 27) (.tmp 30) (by rfl) w.heap.size (.slice A9 (k + 1) c9) (k + 1) _ (by rfl) hown2 _ (l.length - k) (c - k) _ (by rfl) (hbk _ hB3) hbn (one_sub h1c _).2 (by unfold maxLen; omega) (by omega) (by first | omega | (simp <;> omega)) (l.length + 1) (by omega) ?_; clear tokD; (intro A8 c8 w4 hown3 hgrow3; (have hB4 : Below w.heap.size w w4 := bGrown hgrow3 hB3.size (fun k hk => (hown2.lt k hk).1) hB3))))
        all_goals
          go_wp2
          all_goals (go_ret; exact put_fin hp.out hown3 hB4)
set_option maxHeartbeats 4000000 in
set_option maxRecDepth 100000 in
theorem refMendW (s : ByteArray) (hz : s.size = 12) (w : World) : Calls Tryd.prog 25 #[.string s] w (RetL w ((mendL s).mergeSort leB)) := by
  have hzI : (s.size : Int) = 12 := by omega
  have HZ := Lib.hid hz
  clear hz
  have cv := conv1d
  have sz1 := str1_size
  go_enter Tryd.func25, Tryd.ntmps25
  go_wp2
  go_loopw [3, 4] (fun v i W => ∃ (k : Nat) (A : Option Addr) (c : Nat), k ≤ 12 ∧ i = .int .i64 k ∧ v = .slice A (mendP s chars2 k 0).length c ∧ Sl W A c ((mendP s chars2 k 0).mergeSort leB) ∧ (mendP s chars2 k 0).length ≤ 75 * k ∧ Below w.heap.size w W) (fun _ i _ => 12 - (intOf i).toNat)
  case atStart =>
    refine ⟨0, some ⟨w.heap.size, 0, none⟩, 0, by omega, rfl, ?_, ?_, ?_, by (repeat' first | exact Below.refl _ _ | (with_reducible assumption) | (with_reducible refine bAlloc (by first | omega | (simp <;> omega)) ?_) | (with_reducible refine bSet (by first | omega | (simp <;> omega)) ?_) | (with_reducible refine bDrew ?_) | (with_reducible refine bDrewN ?_) | (with_reducible refine bTrans (by with_reducible assumption) (by first | omega | (simp <;> omega)) ?_))⟩
    · rw [mendP_zero]; rfl
    · rw [mendP_zero, List.mergeSort_nil]; exact Sl.empty w _
    · rw [mendP_zero]; simp
  case round =>
    obtain ⟨k, A, c, hk, rfl, rfl, hrow, hll, hB⟩ := hrel
    by_cases hlt : k < 12
    · have hks : k < s.size := by have := HZ.out; omega
      obtain ⟨wo, rfl⟩ : ∃ wo : World, wo = wr := ⟨_, rfl⟩
      have hkd : decide ((k : Int) < 12) = true := decide_eq_true (by omega)
      go_wp2
      go_loopw [3, 5] (fun v j W => ∃ (d : Nat) (A : Option Addr) (c : Nat), 48 ≤ d ∧ d ≤ 123 ∧ j = .int .i64 d ∧ v = .slice A (mendP s chars2 k (d - 48)).length c ∧ Sl W A c ((mendP s chars2 k (d - 48)).mergeSort leB) ∧ (mendP s chars2 k (d - 48)).length ≤ 75 * k + (d - 48) ∧ Below w.heap.size w W) (fun _ j _ => 123 - (intOf j).toNat)
      case atStart => exact ⟨48, A, c, by omega, by omega, rfl, rfl, hrow, by omega, hB⟩
      case round =>
        clear hrow hll hB
        obtain ⟨d, A, c, hd0, hd1, rfl, rfl, hrow, hll, hB⟩ := hrel
        have hz9 := hB.size
        by_cases hml : d < 123
        · have hlen : d - 48 < (chars2 k).length := by unfold chars2; simp; omega
          have hc : (chars2 k)[d - 48] = d := (List.getElem?_eq_some_iff.1 (show (chars2 k)[d - 48]? = some d by unfold chars2; rw [List.getElem?_range' (by omega)]; congr 1; omega)).2
          have hnx := mendP_next s chars2 k (d - 48) hlen
          rw [hc, show d - 48 + 1 = d + 1 - 48 by omega] at hnx
          have hT := chg_eq (s := s) (k := k) (c := d)
          have hTz := chg_size (s := s) (i := k) (c := d) hks
          obtain ⟨T, eT⟩ : ∃ T, chg s k d = T := ⟨_, rfl⟩
          have htx : txt s k d = T.data.toList := by unfold txt; rw [eT]
          have hok : okM s k d = (decide (T ≠ s) && rightB T) := by unfold okM; rw [eT]
          rw [eT] at hT hTz
          have hR := fun w => qB' (refRightW T w (by rw [hTz, HZ.out]; unfold maxLen; omega))
          have hst := str_eqB T s
          rw [htx] at hnx
          have j0 : (k : Int) + 1 ≤ 12 := by omega
          have j1 : (0 : Int) ≤ k + 1 := by omega
          have t1 : ((k : Int) + 1).toNat = k + 1 := by omega
          have ht2 := Lib.hid (putL_sort (mendP s chars2 k (d - 48)) T.data.toList)
          have hlm : ((mendP s chars2 k (d - 48)).mergeSort leB).length = (mendP s chars2 k (d - 48)).length := List.length_mergeSort _
          have hPW : ∀ w : World, Sl w A c ((mendP s chars2 k (d - 48)).mergeSort leB) → Calls Tryd.prog 39 #[.slice A (mendP s chars2 k (d - 48)).length c, .string T] w (RetL w (putL ((mendP s chars2 k (d - 48)).mergeSort leB) T.data.toList)) := fun w h => by rw [← hlm]; exact putW _ A c T w h (by rw [hlm]; omega)
          have hpl := Lib.hid (show (putL ((mendP s chars2 k (d - 48)).mergeSort leB) T.data.toList).length = (mendP s chars2 k (d - 48)).length + 1 by rw [(putL_perm _ _).length_eq, List.length_append, hlm]; rfl)
          have HLM := Lib.hid hlm
          clear eT htx hTz hc hlen hlm
          obtain ⟨q, hq⟩ : ∃ q, decide (T = s) = q := ⟨_, rfl⟩
          obtain ⟨r, hr⟩ : ∃ r, rightB T = r := ⟨_, rfl⟩
          have hok2 : okM s k d = (!q && r) := by rw [hok, hr, ← hq]; simp
          rw [hq] at hst
          rw [hr] at hR
          rw [hok2] at hnx
          replace hnx := Lib.hid hnx
          clear hok hok2 hq hr
          cases q with
          | true =>
            have hnx2 := Lib.hid (show mendP s chars2 k (d + 1 - 48) = mendP s chars2 k (d - 48) by have := hnx.out; simpa using this)
            clear hnx hR ht2
            go_wp2
            go_region
            go_wp2
            go_roundw
            case rel => exact ⟨d + 1, A, c, by omega, by omega, by go_num, by rw [hnx2.out], by rw [hnx2.out]; exact hrow.next (by (repeat' first | exact Below.refl _ _ | (with_reducible assumption) | (with_reducible refine bAlloc (by first | omega | (simp <;> omega)) ?_) | (with_reducible refine bSet (by first | omega | (simp <;> omega)) ?_) | (with_reducible refine bDrew ?_) | (with_reducible refine bDrewN ?_) | (with_reducible refine bTrans (by with_reducible assumption) (by first | omega | (simp <;> omega)) ?_))), by rw [hnx2.out]; omega, by (repeat' first | exact Below.refl _ _ | (with_reducible assumption) | (with_reducible refine bAlloc (by first | omega | (simp <;> omega)) ?_) | (with_reducible refine bSet (by first | omega | (simp <;> omega)) ?_) | (with_reducible refine bDrew ?_) | (with_reducible refine bDrewN ?_) | (with_reducible refine bTrans (by with_reducible assumption) (by first | omega | (simp <;> omega)) ?_))⟩
            case measure => simp [intOf]; omega
          | false =>
            cases r with
            | false =>
              have hnx2 := Lib.hid (show mendP s chars2 k (d + 1 - 48) = mendP s chars2 k (d - 48) by have := hnx.out; simpa using this)
              clear hnx ht2
              go_wp2
              go_region
              go_wp2_with (go_at_call 16; (with_reducible refine (hR _).mono ?_); rintro e w1 ⟨rfl, hxb⟩; (have hb1 : Below wr.heap.size wr w1 := (by (repeat' first | exact Below.refl _ _ | (with_reducible assumption) | (with_reducible refine bAlloc (by first | omega | (simp <;> omega)) ?_) | (with_reducible refine bSet (by first | omega | (simp <;> omega)) ?_) | (with_reducible refine bDrew ?_) | (with_reducible refine bDrewN ?_) | (with_reducible refine bTrans (by with_reducible assumption) (by first | omega | (simp <;> omega)) ?_)))); have hr1 := hrow.next hb1; (have hB1 : Below w.heap.size w w1 := (by (repeat' first | exact Below.refl _ _ | (with_reducible assumption) | (with_reducible refine bAlloc (by first | omega | (simp <;> omega)) ?_) | (with_reducible refine bSet (by first | omega | (simp <;> omega)) ?_) | (with_reducible refine bDrew ?_) | (with_reducible refine bDrewN ?_) | (with_reducible refine bTrans (by with_reducible assumption) (by first | omega | (simp <;> omega)) ?_)))); (have hz1 := hb1.size); clear hxb hb1)
              go_roundw
              case rel => exact ⟨d + 1, A, c, by omega, by omega, by go_num, by rw [hnx2.out], by rw [hnx2.out]; exact hr1, by rw [hnx2.out]; omega, hB1⟩
              case measure => simp [intOf]; omega
            | true =>
              have hnx2 := Lib.hid (show mendP s chars2 k (d + 1 - 48) = mendP s chars2 k (d - 48) ++ [T.data.toList] by have := hnx.out; simpa using this)
              clear hnx
              go_wp2
              go_region
              go_wp2_with (first | (go_at_call 16; (with_reducible refine (hR _).mono ?_); rintro e w1 ⟨rfl, hxb⟩; (have hb1 : Below wr.heap.size wr w1 := (by (repeat' first | exact Below.refl _ _ | (with_reducible assumption) | (with_reducible refine bAlloc (by first | omega | (simp <;> omega)) ?_) | (with_reducible refine bSet (by first | omega | (simp <;> omega)) ?_) | (with_reducible refine bDrew ?_) | (with_reducible refine bDrewN ?_) | (with_reducible refine bTrans (by with_reducible assumption) (by first | omega | (simp <;> omega)) ?_)))); have hr1 := hrow.next hb1; (have hB1 : Below w.heap.size w w1 := (by (repeat' first | exact Below.refl _ _ | (with_reducible assumption) | (with_reducible refine bAlloc (by first | omega | (simp <;> omega)) ?_) | (with_reducible refine bSet (by first | omega | (simp <;> omega)) ?_) | (with_reducible refine bDrew ?_) | (with_reducible refine bDrewN ?_) | (with_reducible refine bTrans (by with_reducible assumption) (by first | omega | (simp <;> omega)) ?_)))); (have hz1 := hb1.size); clear hxb hb1) | (go_at_call 39; (with_reducible refine (hPW _ hr1).mono ?_); rintro e w3 ⟨A3, c3, rfl, hs3, hb3⟩))
              go_roundw
              case rel => exact ⟨d + 1, A3, c3, by omega, by omega, by go_num, by rw [hnx2.out, List.length_append, List.length_singleton, hpl.out], by rw [hnx2.out, ← ht2.out]; exact hs3, by rw [hnx2.out, List.length_append, List.length_singleton]; omega, by (repeat' first | exact Below.refl _ _ | (with_reducible assumption) | (with_reducible refine bAlloc (by first | omega | (simp <;> omega)) ?_) | (with_reducible refine bSet (by first | omega | (simp <;> omega)) ?_) | (with_reducible refine bDrew ?_) | (with_reducible refine bDrewN ?_) | (with_reducible refine bTrans (by with_reducible assumption) (by first | omega | (simp <;> omega)) ?_))⟩
              case measure => simp [intOf]; omega
        · obtain rfl : d = 123 := by omega
          have hrw := Lib.hid (mendP_row s chars2 k 75 (by unfold chars2; simp))
          go_wp2
          go_roundw
          case rel => exact ⟨k + 1, A, c, by omega, by go_num, by rw [← hrw.out], by rw [← hrw.out]; exact hrow, by rw [← hrw.out]; omega, hB⟩
          case measure => simp [intOf]; omega
    · obtain rfl : k = 12 := by omega
      rw [mendP_ref HZ.out] at hrow ⊢
      go_wp2
      go_ret
      exact ⟨A, c, by rw [List.length_mergeSort]; rfl, hrow, hB⟩
end Go.Proofs.YtjohlbpahaklkaaDoor
