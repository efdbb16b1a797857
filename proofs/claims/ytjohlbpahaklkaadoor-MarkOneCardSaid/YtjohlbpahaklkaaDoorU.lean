/-
  MarkOne: a right mark with any one sign changed, whichever, to whatever byte, isn't right; it is among what its wrong text is mended to.
  No conditions.
-/
import Derived.Test.YtjohlbpahaklkaaDoorS
import Derived.Test.YtjohlbpahaklkaaDoorL
namespace Go.Proofs.YtjohlbpahaklkaaDoor
set_option linter.unusedVariables false
set_option linter.unusedSimpArgs false
open Go.RowKit Go.Sort

theorem wfu8 {n : Int} (h : (Lit.int .u8 n).wf = true) : 0 ≤ n ∧ n ≤ 255 := by
  unfold Lit.wf at h
  simp at h
  have e : IntKind.u8.min = 0 := by decide
  have e' : IntKind.u8.max = 255 := by decide
  rw [e, e'] at h
  exact h
theorem hits_len (s : ByteArray) (i : Nat) (cs : List Nat) : (hits s i cs).length ≤ cs.length := by
  unfold hits
  rw [List.length_map]
  exact List.length_filter_le _ _
theorem mendL_len (s : ByteArray) : (mendL s).length ≤ 312 := by
  have key : ∀ n, ((List.range n).flatMap fun i => hits s i (chars i)).length ≤ 26 * n := by
    intro n
    induction n with
    | zero => simp
    | succ n ih =>
      rw [List.range_succ, List.flatMap_append, List.length_append]
      have h1 := hits_len s n (chars n)
      have h2 : (chars n).length ≤ 26 := by unfold chars; split <;> simp
      simp only [List.flatMap_cons, List.flatMap_nil, List.append_nil]
      omega
  exact key 12
/-- a right mark is among what a wrong text near it is mended to -/
theorem one_law {S : ByteArray} (hr : rightB S = true) {a c : Nat} (ha : a < 12) (hc : c < 256) (hne : byt S a ≠ c) :
    (chg S a c).size = 12 ∧ rightB (chg S a c) = false ∧ S.data.toList ∈ (mendL (chg S a c)).mergeSort leB := by
  have hz := right_size hr
  have hz2 := chg_size (s := S) (i := a) (c := c) (by omega)
  have hd : chg S a c ≠ S := fun e => hne (by have := chg_at (s := S) (i := a) (c := c) (by omega) hc; rw [e] at this; exact this)
  have hb := byt_range S a
  have hb0 : 0 ≤ byt S a := by rw [byt_get S a (by omega)]; omega
  obtain ⟨d, hdd⟩ := Int.eq_ofNat_of_zero_le hb0
  have hd2 : d < 256 := by omega
  have hback := chg_back (s := S) (i := a) (c := c) (d := d) (by omega) hdd hd2
  have hok : okM (chg S a c) a d = true := by
    unfold okM
    rw [hback, hr]
    simp [Ne.symm hd]
  refine ⟨by omega, ?_, ?_⟩
  · cases h : rightB (chg S a c) with
    | false => rfl
    | true => exact absurd (near_law hr h a ha (fun k hk => chg_off (by omega) hk)) hd
  · have hcm : d ∈ chars a := by
      have h2 := right_char (s := chg S a c) (i := a) (c := d) (by omega) ha hd2 (by rw [hback]; exact hr)
      unfold chars
      split
      · rename_i h4; rw [if_pos h4] at h2; rw [List.mem_range'_1]; omega
      · rename_i h4; rw [if_neg h4] at h2; rw [List.mem_range'_1]; omega
    have hm := mendL_mem (s := chg S a c) (i := a) (c := d) ha hcm hok
    have ht : txt (chg S a c) a d = S.data.toList := by unfold txt; rw [hback]
    rw [ht] at hm
    exact (List.mergeSort_perm _ leB).mem_iff.2 hm
set_option maxHeartbeats 2000000 in
set_option maxRecDepth 100000 in
theorem oneW (o : ByteArray) (n at_ tb : Int) (w : World) (hs : o.size ≤ maxLen) (t0 : 0 ≤ tb) (t9 : tb ≤ 255) (hT : Tb w) :
    Calls Tryd.prog 10 #[.string o, .int .i64 n, .int .i64 at_, .int .u8 tb] w fun e w' => e = .returned (.bool true) ∧ Below w.heap.size w w' := by
  have hM := fun w h => makeW o n w hs h
  have hA := fun w h => awakeW w h
  obtain ⟨c, rfl⟩ := Int.eq_ofNat_of_zero_le t0
  rcases mk_cases o n with ⟨e1, e2⟩ | ⟨e1, e2, hz, hl, hn0, hn1⟩
  · rw [e2] at hM
    have e1' : (mkE o n == 0) = false := by simpa using e1
    have e1'' : (mkE o n != 0) = true := by simpa using e1
    clear e1 e2
    generalize mkE o n = E at *
    go_enter Tryd.func10, Tryd.ntmps10
    go_wp2_with (first | (go_at_call 11; refine (hA _ hT).mono ?_; rintro e w1 ⟨rfl, hxb⟩; (obtain ⟨hxc, hxf⟩ := bcell hxb; have hxz := hxb.size; (try simp [Nat.succ_le_iff] at hxz); (try have hxy := Nat.lt_of_succ_lt hxz); (try have hxy2 := Nat.lt_of_succ_lt hxy); (try have hxy3 := Nat.lt_of_succ_lt hxy2); (try have hxy4 := Nat.lt_of_succ_lt hxy3); have hxB : Below w.heap.size w w1 := (by (repeat' first | exact Below.refl _ _ | (with_reducible assumption) | (with_reducible refine bAlloc (by first | omega | (simp <;> omega)) ?_) | (with_reducible refine bSet (by first | omega | (simp <;> omega)) ?_) | (with_reducible refine bDrew ?_) | (with_reducible refine bDrewN ?_) | (with_reducible refine bTrans (by with_reducible assumption) (by first | omega | (simp <;> omega)) ?_))); have hxk := below_all hxB; (try have hxl0 : w.heap.size < w1.heap.size := (by omega)); (try have hxl1 : w.heap.size + 1 < w1.heap.size := (by omega)); (try have hxl2 : w.heap.size + 2 < w1.heap.size := (by omega)))) | (go_at_call 12; refine (hM _ (hT.next (by (repeat' first | exact Below.refl _ _ | (with_reducible assumption) | (with_reducible refine bAlloc (by first | omega | (simp <;> omega)) ?_) | (with_reducible refine bSet (by first | omega | (simp <;> omega)) ?_) | (with_reducible refine bDrew ?_) | (with_reducible refine bDrewN ?_) | (with_reducible refine bTrans (by with_reducible assumption) (by first | omega | (simp <;> omega)) ?_))))).mono ?_; rintro e w1 ⟨rfl, hxb⟩; (obtain ⟨hxc, hxf⟩ := bcell hxb; have hxz := hxb.size; (try simp [Nat.succ_le_iff] at hxz); (try have hxy := Nat.lt_of_succ_lt hxz); (try have hxy2 := Nat.lt_of_succ_lt hxy); (try have hxy3 := Nat.lt_of_succ_lt hxy2); (try have hxy4 := Nat.lt_of_succ_lt hxy3); have hxB : Below w.heap.size w w1 := (by (repeat' first | exact Below.refl _ _ | (with_reducible assumption) | (with_reducible refine bAlloc (by first | omega | (simp <;> omega)) ?_) | (with_reducible refine bSet (by first | omega | (simp <;> omega)) ?_) | (with_reducible refine bDrew ?_) | (with_reducible refine bDrewN ?_) | (with_reducible refine bTrans (by with_reducible assumption) (by first | omega | (simp <;> omega)) ?_))); have hxk := below_all hxB; (try have hxl0 : w.heap.size < w1.heap.size := (by omega)); (try have hxl1 : w.heap.size + 1 < w1.heap.size := (by omega)); (try have hxl2 : w.heap.size + 2 < w1.heap.size := (by omega)))))
    all_goals (go_ret; go_light; exact ⟨rfl, by (repeat' first | exact Below.refl _ _ | (with_reducible assumption) | (with_reducible refine bAlloc (by first | omega | (simp <;> omega)) ?_) | (with_reducible refine bSet (by first | omega | (simp <;> omega)) ?_) | (with_reducible refine bDrew ?_) | (with_reducible refine bDrewN ?_) | (with_reducible refine bTrans (by with_reducible assumption) (by first | omega | (simp <;> omega)) ?_))⟩)
  · rw [e1, e2] at hM
    have hr := make_right (n := n.toNat) hz hl
    have hz12 := make_size (n := n.toNat) hz
    generalize makeB o n.toNat = S at *
    clear e1 e2 hl hz
    have hzI : (S.size : Int) = 12 := by omega
    by_cases ha : 0 ≤ at_ ∧ at_ ≤ 11
    · obtain ⟨a, rfl⟩ := Int.eq_ofNat_of_zero_le ha.1
      have k0 : a < S.size := by omega
      have hby := byt_get S a k0
      by_cases hne : byt S a = c
      · have hcc : ((S[a].toNat : Int) == (c : Int)) = true := by rw [← hby, hne]; simp
        have j0 : (a : Int) ≤ 11 := ha.2
        clear hby hne hr ha
        go_enter Tryd.func10, Tryd.ntmps10
        go_wp2_with (first | (go_at_call 11; refine (hA _ hT).mono ?_; rintro e w1 ⟨rfl, hxb⟩; (obtain ⟨hxc, hxf⟩ := bcell hxb; have hxz := hxb.size; (try simp [Nat.succ_le_iff] at hxz); (try have hxy := Nat.lt_of_succ_lt hxz); (try have hxy2 := Nat.lt_of_succ_lt hxy); (try have hxy3 := Nat.lt_of_succ_lt hxy2); (try have hxy4 := Nat.lt_of_succ_lt hxy3); have hxB : Below w.heap.size w w1 := (by (repeat' first | exact Below.refl _ _ | (with_reducible assumption) | (with_reducible refine bAlloc (by first | omega | (simp <;> omega)) ?_) | (with_reducible refine bSet (by first | omega | (simp <;> omega)) ?_) | (with_reducible refine bDrew ?_) | (with_reducible refine bDrewN ?_) | (with_reducible refine bTrans (by with_reducible assumption) (by first | omega | (simp <;> omega)) ?_))); have hxk := below_all hxB; (try have hxl0 : w.heap.size < w1.heap.size := (by omega)); (try have hxl1 : w.heap.size + 1 < w1.heap.size := (by omega)); (try have hxl2 : w.heap.size + 2 < w1.heap.size := (by omega)))) | (go_at_call 12; refine (hM _ (hT.next (by (repeat' first | exact Below.refl _ _ | (with_reducible assumption) | (with_reducible refine bAlloc (by first | omega | (simp <;> omega)) ?_) | (with_reducible refine bSet (by first | omega | (simp <;> omega)) ?_) | (with_reducible refine bDrew ?_) | (with_reducible refine bDrewN ?_) | (with_reducible refine bTrans (by with_reducible assumption) (by first | omega | (simp <;> omega)) ?_))))).mono ?_; rintro e w1 ⟨rfl, hxb⟩; (obtain ⟨hxc, hxf⟩ := bcell hxb; have hxz := hxb.size; (try simp [Nat.succ_le_iff] at hxz); (try have hxy := Nat.lt_of_succ_lt hxz); (try have hxy2 := Nat.lt_of_succ_lt hxy); (try have hxy3 := Nat.lt_of_succ_lt hxy2); (try have hxy4 := Nat.lt_of_succ_lt hxy3); have hxB : Below w.heap.size w w1 := (by (repeat' first | exact Below.refl _ _ | (with_reducible assumption) | (with_reducible refine bAlloc (by first | omega | (simp <;> omega)) ?_) | (with_reducible refine bSet (by first | omega | (simp <;> omega)) ?_) | (with_reducible refine bDrew ?_) | (with_reducible refine bDrewN ?_) | (with_reducible refine bTrans (by with_reducible assumption) (by first | omega | (simp <;> omega)) ?_))); have hxk := below_all hxB; (try have hxl0 : w.heap.size < w1.heap.size := (by omega)); (try have hxl1 : w.heap.size + 1 < w1.heap.size := (by omega)); (try have hxl2 : w.heap.size + 2 < w1.heap.size := (by omega)))))
        all_goals (go_ret; go_light; exact ⟨rfl, by (repeat' first | exact Below.refl _ _ | (with_reducible assumption) | (with_reducible refine bAlloc (by first | omega | (simp <;> omega)) ?_) | (with_reducible refine bSet (by first | omega | (simp <;> omega)) ?_) | (with_reducible refine bDrew ?_) | (with_reducible refine bDrewN ?_) | (with_reducible refine bTrans (by with_reducible assumption) (by first | omega | (simp <;> omega)) ?_))⟩)
      · have hcc : ((S[a].toNat : Int) == (c : Int)) = false := by rw [← hby]; simpa using hne
        obtain ⟨g1, g2, g3⟩ := one_law hr (a := a) (c := c) (by omega) (by omega) hne
        have hEq := chg_eq (s := S) (k := a) (c := c)
        have hm := mendW (chg S a c) g1
        have hlen : ((mendL (chg S a c)).mergeSort leB).length ≤ 312 := by rw [List.length_mergeSort]; exact mendL_len _
        generalize (mendL (chg S a c)).mergeSort leB = L at *
        have hTm : (chg S a c).size ≤ maxLen := by rw [g1]; unfold maxLen; omega
        have hR := fun w => qB' (rightW (chg S a c) w hTm)
        have hO := fun w => qB' (ownerW (chg S a c) w hTm)
        have hN := fun w => qB' (numberZW (chg S a c) w hTm)
        have ho : ownerB (chg S a c) = ⟨#[]⟩ := by unfold ownerB; rw [g2]; rfl
        have hnz : numberZ (chg S a c) = -1 := by unfold numberZ; rw [g2]; rfl
        rw [g2] at hR
        rw [ho] at hO
        rw [hnz] at hN
        generalize chg S a c = T at *
        have cv := conv1d
        have sz1 := str1_size
        have j0 : (a : Int) ≤ 11 := ha.2
        have j1 : (a : Int) + 1 ≤ 12 := by omega
        have j2 : (0 : Int) ≤ a + 1 := by omega
        have t1 : ((a : Int) + 1).toNat = a + 1 := by omega
        have hG3 := Lib.hid g3
        clear g1 g2 g3 ho hnz hby hne hr ha hTm hz12
        go_enter Tryd.func10, Tryd.ntmps10
        go_wp2_with (first | (go_at_call 11; refine (hA _ hT).mono ?_; rintro e w1 ⟨rfl, hxb⟩; (obtain ⟨hxc, hxf⟩ := bcell hxb; have hxz := hxb.size; (try simp [Nat.succ_le_iff] at hxz); (try have hxy := Nat.lt_of_succ_lt hxz); (try have hxy2 := Nat.lt_of_succ_lt hxy); (try have hxy3 := Nat.lt_of_succ_lt hxy2); (try have hxy4 := Nat.lt_of_succ_lt hxy3); have hxB : Below w.heap.size w w1 := (by (repeat' first | exact Below.refl _ _ | (with_reducible assumption) | (with_reducible refine bAlloc (by first | omega | (simp <;> omega)) ?_) | (with_reducible refine bSet (by first | omega | (simp <;> omega)) ?_) | (with_reducible refine bDrew ?_) | (with_reducible refine bDrewN ?_) | (with_reducible refine bTrans (by with_reducible assumption) (by first | omega | (simp <;> omega)) ?_))); have hxk := below_all hxB; (try have hxl0 : w.heap.size < w1.heap.size := (by omega)); (try have hxl1 : w.heap.size + 1 < w1.heap.size := (by omega)); (try have hxl2 : w.heap.size + 2 < w1.heap.size := (by omega)))) | (go_at_call 12; refine (hM _ (hT.next (by (repeat' first | exact Below.refl _ _ | (with_reducible assumption) | (with_reducible refine bAlloc (by first | omega | (simp <;> omega)) ?_) | (with_reducible refine bSet (by first | omega | (simp <;> omega)) ?_) | (with_reducible refine bDrew ?_) | (with_reducible refine bDrewN ?_) | (with_reducible refine bTrans (by with_reducible assumption) (by first | omega | (simp <;> omega)) ?_))))).mono ?_; rintro e w1 ⟨rfl, hxb⟩; (obtain ⟨hxc, hxf⟩ := bcell hxb; have hxz := hxb.size; (try simp [Nat.succ_le_iff] at hxz); (try have hxy := Nat.lt_of_succ_lt hxz); (try have hxy2 := Nat.lt_of_succ_lt hxy); (try have hxy3 := Nat.lt_of_succ_lt hxy2); (try have hxy4 := Nat.lt_of_succ_lt hxy3); have hxB : Below w.heap.size w w1 := (by (repeat' first | exact Below.refl _ _ | (with_reducible assumption) | (with_reducible refine bAlloc (by first | omega | (simp <;> omega)) ?_) | (with_reducible refine bSet (by first | omega | (simp <;> omega)) ?_) | (with_reducible refine bDrew ?_) | (with_reducible refine bDrewN ?_) | (with_reducible refine bTrans (by with_reducible assumption) (by first | omega | (simp <;> omega)) ?_))); have hxk := below_all hxB; (try have hxl0 : w.heap.size < w1.heap.size := (by omega)); (try have hxl1 : w.heap.size + 1 < w1.heap.size := (by omega)); (try have hxl2 : w.heap.size + 2 < w1.heap.size := (by omega)))))
        go_region
        go_wp2_with (first | (go_at_call 15; (with_reducible refine (hR _).mono ?_); rintro e w1 ⟨rfl, hxb⟩; (obtain ⟨hxc, hxf⟩ := bcell hxb; have hxz := hxb.size; (try simp [Nat.succ_le_iff] at hxz); (try have hxy := Nat.lt_of_succ_lt hxz); (try have hxy2 := Nat.lt_of_succ_lt hxy); (try have hxy3 := Nat.lt_of_succ_lt hxy2); (try have hxy4 := Nat.lt_of_succ_lt hxy3); have hxB : Below w.heap.size w w1 := (by (repeat' first | exact Below.refl _ _ | (with_reducible assumption) | (with_reducible refine bAlloc (by first | omega | (simp <;> omega)) ?_) | (with_reducible refine bSet (by first | omega | (simp <;> omega)) ?_) | (with_reducible refine bDrew ?_) | (with_reducible refine bDrewN ?_) | (with_reducible refine bTrans (by with_reducible assumption) (by first | omega | (simp <;> omega)) ?_))); have hxk := below_all hxB; (try have hxl0 : w.heap.size < w1.heap.size := (by omega)); (try have hxl1 : w.heap.size + 1 < w1.heap.size := (by omega)); (try have hxl2 : w.heap.size + 2 < w1.heap.size := (by omega)))) | (go_at_call 21; (with_reducible refine (hO _).mono ?_); rintro e w1 ⟨rfl, hxb⟩; (obtain ⟨hxc, hxf⟩ := bcell hxb; have hxz := hxb.size; (try simp [Nat.succ_le_iff] at hxz); (try have hxy := Nat.lt_of_succ_lt hxz); (try have hxy2 := Nat.lt_of_succ_lt hxy); (try have hxy3 := Nat.lt_of_succ_lt hxy2); (try have hxy4 := Nat.lt_of_succ_lt hxy3); have hxB : Below w.heap.size w w1 := (by (repeat' first | exact Below.refl _ _ | (with_reducible assumption) | (with_reducible refine bAlloc (by first | omega | (simp <;> omega)) ?_) | (with_reducible refine bSet (by first | omega | (simp <;> omega)) ?_) | (with_reducible refine bDrew ?_) | (with_reducible refine bDrewN ?_) | (with_reducible refine bTrans (by with_reducible assumption) (by first | omega | (simp <;> omega)) ?_))); have hxk := below_all hxB; (try have hxl0 : w.heap.size < w1.heap.size := (by omega)); (try have hxl1 : w.heap.size + 1 < w1.heap.size := (by omega)); (try have hxl2 : w.heap.size + 2 < w1.heap.size := (by omega)))) | (go_at_call 22; (with_reducible refine (hN _).mono ?_); rintro e w1 ⟨rfl, hxb⟩; (obtain ⟨hxc, hxf⟩ := bcell hxb; have hxz := hxb.size; (try simp [Nat.succ_le_iff] at hxz); (try have hxy := Nat.lt_of_succ_lt hxz); (try have hxy2 := Nat.lt_of_succ_lt hxy); (try have hxy3 := Nat.lt_of_succ_lt hxy2); (try have hxy4 := Nat.lt_of_succ_lt hxy3); have hxB : Below w.heap.size w w1 := (by (repeat' first | exact Below.refl _ _ | (with_reducible assumption) | (with_reducible refine bAlloc (by first | omega | (simp <;> omega)) ?_) | (with_reducible refine bSet (by first | omega | (simp <;> omega)) ?_) | (with_reducible refine bDrew ?_) | (with_reducible refine bDrewN ?_) | (with_reducible refine bTrans (by with_reducible assumption) (by first | omega | (simp <;> omega)) ?_))); have hxk := below_all hxB; (try have hxl0 : w.heap.size < w1.heap.size := (by omega)); (try have hxl1 : w.heap.size + 1 < w1.heap.size := (by omega)); (try have hxl2 : w.heap.size + 2 < w1.heap.size := (by omega)))) | (go_at_call 23; (with_reducible refine (hm _).mono ?_); rintro e wA ⟨A, cA, rfl, hsA, hxA⟩; (have hBA : Below w.heap.size w wA := by (repeat' first | exact Below.refl _ _ | (with_reducible assumption) | (with_reducible refine bAlloc (by first | omega | (simp <;> omega)) ?_) | (with_reducible refine bSet (by first | omega | (simp <;> omega)) ?_) | (with_reducible refine bDrew ?_) | (with_reducible refine bDrewN ?_) | (with_reducible refine bTrans (by with_reducible assumption) (by first | omega | (simp <;> omega)) ?_)))))
        go_loop [13] (fun i => ∃ k : Nat, k ≤ L.length ∧ i = .int .i64 k ∧ Hid (∀ y ∈ L.take k, y ≠ S.data.toList)) (fun i => L.length - (intOf i).toNat)
        case atStart => exact ⟨0, Nat.zero_le _, rfl, Lib.hid (by simp)⟩
        case round =>
          obtain ⟨k, hk, rfl, hq⟩ := hrel
          by_cases hlt : k < L.length
          · obtain ⟨ad, rfl, hb, h1⟩ := hsA.row.at_ hlt
            obtain ⟨X, hX⟩ : ∃ X : ByteArray, (⟨L[k].toArray⟩ : ByteArray) = X := ⟨_, rfl⟩
            have hst := str_eqB X S
            have hxs : decide (X = S) = decide (L[k] = S.data.toList) := by
              subst hX
              rw [Bool.eq_iff_iff]
              simp only [decide_eq_true_eq]
              constructor
              · intro h; rw [← h]
              · intro h; exact ByteArray.ext (Array.ext' (by simp [h]))
            rw [hX] at h1
            rw [hxs] at hst
            by_cases hy : L[k] = S.data.toList
            · rw [decide_eq_true hy] at hst
              clear hX hxs hy hq
              go_wp2
              go_ret
              exact ⟨rfl, by (repeat' first | exact Below.refl _ _ | (with_reducible assumption) | (with_reducible refine bAlloc (by first | omega | (simp <;> omega)) ?_) | (with_reducible refine bSet (by first | omega | (simp <;> omega)) ?_) | (with_reducible refine bDrew ?_) | (with_reducible refine bDrewN ?_) | (with_reducible refine bTrans (by with_reducible assumption) (by first | omega | (simp <;> omega)) ?_))⟩
            · rw [decide_eq_false hy] at hst
              have hq2 := Lib.hid (show ∀ y ∈ L.take (k + 1), y ≠ S.data.toList by
                intro y hyy
                rw [List.take_succ_eq_append_getElem hlt, List.mem_append] at hyy
                rcases hyy with hyy | hyy
                · exact hq.out y hyy
                · rw [List.mem_singleton] at hyy; rw [hyy]; exact hy)
              clear hX hxs hy hq
              go_wp2
              go_round
              case rel => exact ⟨k + 1, by omega, by go_num, hq2⟩
              case measure => simp [intOf]; omega
          · exfalso
            have h := hq.out
            rw [List.take_of_length_le (by omega)] at h
            exact h _ hG3.out rfl
    · have hN := Lib.hid ha
      clear ha hr
      go_enter Tryd.func10, Tryd.ntmps10
      go_wp2_with (first | (go_at_call 11; refine (hA _ hT).mono ?_; rintro e w1 ⟨rfl, hxb⟩; (obtain ⟨hxc, hxf⟩ := bcell hxb; have hxz := hxb.size; (try simp [Nat.succ_le_iff] at hxz); (try have hxy := Nat.lt_of_succ_lt hxz); (try have hxy2 := Nat.lt_of_succ_lt hxy); (try have hxy3 := Nat.lt_of_succ_lt hxy2); (try have hxy4 := Nat.lt_of_succ_lt hxy3); have hxB : Below w.heap.size w w1 := (by (repeat' first | exact Below.refl _ _ | (with_reducible assumption) | (with_reducible refine bAlloc (by first | omega | (simp <;> omega)) ?_) | (with_reducible refine bSet (by first | omega | (simp <;> omega)) ?_) | (with_reducible refine bDrew ?_) | (with_reducible refine bDrewN ?_) | (with_reducible refine bTrans (by with_reducible assumption) (by first | omega | (simp <;> omega)) ?_))); have hxk := below_all hxB; (try have hxl0 : w.heap.size < w1.heap.size := (by omega)); (try have hxl1 : w.heap.size + 1 < w1.heap.size := (by omega)); (try have hxl2 : w.heap.size + 2 < w1.heap.size := (by omega)))) | (go_at_call 12; refine (hM _ (hT.next (by (repeat' first | exact Below.refl _ _ | (with_reducible assumption) | (with_reducible refine bAlloc (by first | omega | (simp <;> omega)) ?_) | (with_reducible refine bSet (by first | omega | (simp <;> omega)) ?_) | (with_reducible refine bDrew ?_) | (with_reducible refine bDrewN ?_) | (with_reducible refine bTrans (by with_reducible assumption) (by first | omega | (simp <;> omega)) ?_))))).mono ?_; rintro e w1 ⟨rfl, hxb⟩; (obtain ⟨hxc, hxf⟩ := bcell hxb; have hxz := hxb.size; (try simp [Nat.succ_le_iff] at hxz); (try have hxy := Nat.lt_of_succ_lt hxz); (try have hxy2 := Nat.lt_of_succ_lt hxy); (try have hxy3 := Nat.lt_of_succ_lt hxy2); (try have hxy4 := Nat.lt_of_succ_lt hxy3); have hxB : Below w.heap.size w w1 := (by (repeat' first | exact Below.refl _ _ | (with_reducible assumption) | (with_reducible refine bAlloc (by first | omega | (simp <;> omega)) ?_) | (with_reducible refine bSet (by first | omega | (simp <;> omega)) ?_) | (with_reducible refine bDrew ?_) | (with_reducible refine bDrewN ?_) | (with_reducible refine bTrans (by with_reducible assumption) (by first | omega | (simp <;> omega)) ?_))); have hxk := below_all hxB; (try have hxl0 : w.heap.size < w1.heap.size := (by omega)); (try have hxl1 : w.heap.size + 1 < w1.heap.size := (by omega)); (try have hxl2 : w.heap.size + 2 < w1.heap.size := (by omega)))))
      all_goals first
        | (go_ret; go_light; exact ⟨rfl, by (repeat' first | exact Below.refl _ _ | (with_reducible assumption) | (with_reducible refine bAlloc (by first | omega | (simp <;> omega)) ?_) | (with_reducible refine bSet (by first | omega | (simp <;> omega)) ?_) | (with_reducible refine bDrew ?_) | (with_reducible refine bDrewN ?_) | (with_reducible refine bTrans (by with_reducible assumption) (by first | omega | (simp <;> omega)) ?_))⟩)
        | (exfalso; have := hN.out; omega)
open Go.ChangeShapes Go.WideShapes Go.ChangeAt Go.Deep in
open Go.ChangeMaps (open_string) in
set_option maxRecDepth 100000 in
theorem markOne_lifted (os : Os) (started : os.Started) (H : Type) (enc : TypeId × Value → H) :
    ReturnsInHanded {} Tryd.checked os 10 .any (fun w args => (Rows.markOneSpec.pre enc Tryd.prog Tryd.f10 [] false w args ∧ laidMetH Tryd.prog Rows.markOneRow.laid w) ∧ sizedMet enc Tryd.prog Tryd.f10 (OpenSpec.ofChange Rows.markOneSpec) false w args)
      (Rows.markOneSpec.post enc Tryd.prog Tryd.f10 false true false false) := by
  refine returnsInHanded_of_change_and (C := Tryd.checked) (X := fun w _ => laidMetH Tryd.prog Rows.markOneRow.laid w) (fun _ _ _ hh h => h.of_heap hh) own_ started (by kernel_rfl) Tryd.func10
    (ChangeSpec.witness_shaped (enc := enc) (C := Tryd.checked) (os := os) (X := fun w _ => laidMetH Tryd.prog Rows.markOneRow.laid w) false (World.doorLaid Tryd.prog doorN os) #[.string ⟨#[]⟩, .int .i64 0, .int .i64 0, .int .u8 0] 8 rfl (World.shaped_of_RefB (by kernel_rfl) (by kernel_rfl)) (by kernel_rfl) (by kernel_rfl) (by kernel_rfl) (door_met os _)) ?_
  intro W base args ds gs before hval0 hW _ _ hL _
  have hval : ∀ (j : Nat) t v, Tryd.f10.params[j]? = some t → args[j]? = some v → Value.okWide Tryd.prog W .any base t v := hval0
  have hW' := hW
  have hT := tb_of hL
  obtain ⟨p, q, hA0, hV, rfl, hfz, hnd⟩ := hW
  have hA : DataW.TrodAll enc Tryd.prog W 0 (fun _ => true) true Tryd.f10.params.toList args.toList ds p := hA0
  rw [Tryd.params10] at hA hval
  obtain ⟨v0, v1, v2, v3, d0, d1, d2, d3, p0, p1, p2, p3, rfl, rfl, rfl, h0, h1, h2, h3⟩ := trodAll_four hA
  obtain ⟨rfl, rfl⟩ := trodVars_none hV
  (obtain ⟨s, rfl, -, -, hs⟩ := open_string Tryd.underlying9 (hval 0 9 v0 rfl rfl) h0; obtain ⟨n, rfl, -, -, -⟩ := open_int Tryd.underlying3 (hval 1 3 v1 rfl rfl) h1; obtain ⟨a, rfl, -, -, -⟩ := open_int Tryd.underlying3 (hval 2 3 v2 rfl rfl) h2; obtain ⟨t, rfl, -, -, tw⟩ := open_int Tryd.underlying5 (hval 3 5 v3 rfl rfl) h3)
  refine (oneW s n a t W hs (wfu8 tw).1 (wfu8 tw).2 hT).mono fun e W' ⟨he, hb⟩ => ?_
  subst he
  exact ⟨_, rfl, law_post laidOut_ (by kernel_rfl) rfl Tryd.underlying4 rfl rfl hW' hb⟩

open Go.WideShapes Go.ChangeAt in
theorem markOne_said : Rows.MarkOneSaid :=
  OpenClaim.holds_of_wide 10 Tryd.f10 rfl rfl rfl rfl rfl rfl rfl ⟨rfl, rfl, rfl, rfl, rfl⟩ rfl rfl rfl rfl rfl (by kernel_rfl) Tryd.func10 (by kernel_rfl)
    (of_decide_eq_true (by kernel_rfl)) (by unfold Func.isWrapper; first | (rw [if_pos (by decide +kernel)]; kernel_rfl) | (rw [if_neg (by decide +kernel)]; exact ⟨rfl, rfl⟩))
    (fun os started H enc _ => markOne_lifted os started H enc)
theorem markOne_card : Rows.MarkOneCardSaid :=
  Claim7.holds_tied_plain_at .later [] _ _ _ _ markOne_said (fun _ h => by cases h) (by kernel_rfl) (fun _ h => by cases h) markOne_row_tie rfl ⟨rfl, rfl⟩ (by kernel_rfl) rfl (plain_ (by kernel_rfl) 10 Tryd.f10 (by kernel_rfl) Tryd.func10 (by kernel_rfl)) (by kernel_rfl)
#print axioms markOne_card
end Go.Proofs.YtjohlbpahaklkaaDoor
