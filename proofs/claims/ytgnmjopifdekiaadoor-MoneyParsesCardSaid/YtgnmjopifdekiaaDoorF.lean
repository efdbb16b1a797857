/-
  Money: Text, walked.
-/
import Derived.Test.YtgnmjopifdekiaaDoorA
import Derived.Test.YtgnmjopifdekiaaDoorPp
import Derived.Lib.AppendIntMem
import Derived.Lib.ItoaMem
import Derived.IntWalk
namespace Go.Proofs.YtgnmjopifdekiaaDoor
set_option linter.unusedVariables false
set_option linter.unusedSimpArgs false
open Go.RowKit

/-- what is asked of the library's variables -/
structure Lv (w : World) : Prop where
  tab : Lib.TabIs Tryd.prog w "internal/strconv.uint64pow10" .u64 Lib.pow10Tab
  ml : ∃ m, w.cell? ⟨3, 0, none⟩ = some (.int .i64 m)
  es : ∃ tp p, w.var? Tryd.prog "strconv.ErrSyntax" = some #[.iface tp p]
  er : ∃ tp p, w.var? Tryd.prog "strconv.ErrRange" = some #[.iface tp p]
theorem cell_in {w : World} {a : Addr} {u : Value} (h : w.cell? a = some u) : a.block < w.heap.size := by
  rcases Nat.lt_or_ge a.block w.heap.size with hlt | hge
  · exact hlt
  · exfalso
    have e : w.heap[a.block]? = none := Array.getElem?_eq_none hge
    simp [World.cell?, e] at h
theorem var_below {P : Program} {w w' : World} {name : String} {cs : Array Value} (h : w.var? P name = some cs) (hb : Below w.heap.size w w') : w'.var? P name = some cs := by
  unfold World.var? at *
  cases hg : P.globalNamed name with
  | none => rw [hg] at h; simp at h
  | some g =>
    rw [hg] at h
    simp only [Option.bind_some] at h ⊢
    have hlt : g < w.heap.size := by
      rcases Nat.lt_or_ge g w.heap.size with h1 | h1
      · exact h1
      · rw [Array.getElem?_eq_none h1] at h; simp at h
    rw [hb.block g hlt]
    exact h
theorem Lv.next {w w' : World} (h : Lv w) (hb : Below w.heap.size w w') : Lv w' :=
  ⟨Lib.tabBelow_of_tabIs h.tab w' hb, by obtain ⟨m, hm⟩ := h.ml; exact ⟨m, (hb.cell (cell_in hm)).trans hm⟩,
    by obtain ⟨tp, p, hv⟩ := h.es; exact ⟨tp, p, var_below hv hb⟩, by obtain ⟨tp, p, hv⟩ := h.er; exact ⟨tp, p, var_below hv hb⟩⟩
theorem formatW (n : Int) (n0 : 0 ≤ n) (n1 : n ≤ 1099511627776) (w : World) (hT : Lv w) :
    Calls Tryd.prog 36 #[.int .i64 n, .int .i64 10] w fun e w' => e = .returned (.string (decB n.natAbs)) ∧ Below w.heap.size w w' := by
  refine (Tryd.strconv_FormatInt_10 n (by omega) (by omega) w hT.tab).mono fun e w' ⟨he, k, os, hw⟩ => ⟨?_, hw ▸ Lib.below_grow _ w (Nat.le_refl _) k os⟩
  rw [he]
  unfold Lib.itoa decB
  rw [if_neg (by omega), show n.toNat = n.natAbs by omega]
def zerosB (c : Nat) : ByteArray := ⟨(Lib.repeatL [48] c).toArray⟩
theorem zerosB_size (c : Nat) : (zerosB c).size = c := by unfold zerosB; simp [ByteArray.size, Lib.repeatL_length]
theorem repW (c : Nat) (h1 : c ≤ 200) (w : World) :
    Calls Tryd.prog 37 #[.string ⟨#[48]⟩, .int .i64 c] w fun e w' => e = .returned (.string (zerosB c)) ∧ Below w.heap.size w w' :=
  Tryd.strings_Repeat ⟨#[48]⟩ c w (by omega) (by show 1 * c ≤ _; omega)
theorem bytes_app (x y : List UInt8) : (⟨x.toArray⟩ : ByteArray) ++ (⟨y.toArray⟩ : ByteArray) = ⟨(x ++ y).toArray⟩ := by
  apply ByteArray.ext
  rw [ByteArray.data_append]
  simp
theorem decB_size (n : Nat) : (decB n).size = (Lib.decDigits n).length := by unfold decB; simp [ByteArray.size]
/-- what Text makes of the figures -/
theorem pad_split (d n : Nat) : ∃ A B : ByteArray, decB (n / 10 ^ d) = A ∧ padB d (n % 10 ^ d) = B ∧ zerosB (d + 1 - (decB n).size) ++ decB n = A ++ B ∧ B.size = d := by
  refine ⟨_, _, rfl, rfl, ?_, padB_size _ _⟩
  have h := zd_split d n
  rw [decB_size]
  unfold zerosB decB padB
  rw [bytes_app, bytes_app, ← h]
  unfold zdl
  have := Lib.repeatL_replicate (48 : UInt8) 1 (d + 1 - (Lib.decDigits n).length)
  simp at this
  rw [this]
theorem dig_bound : ∀ (k n : Nat), n < 10 ^ k → 0 < k → (Lib.decDigits n).length ≤ k := fun k n h h0 => (pad_eq k n h0 h).2
theorem cur_size {c : ByteArray} (h : curB c = true) : c.size = 3 := by unfold curB at h; simp at h; exact h.1
theorem ext_left (A B : ByteArray) (k : Nat) (h : k = A.size) : (A ++ B).extract 0 k = A := by
  subst h
  apply ByteArray.ext
  simp [ByteArray.data_extract, ByteArray.data_append]
theorem ext_right (A B : ByteArray) (k : Nat) (h : k = A.size) : (A ++ B).extract k (A ++ B).size = B := by
  subst h
  have hs : (A ++ B).size = A.size + B.size := ByteArray.size_append
  have hz := size_extract (A ++ B) A.size (A ++ B).size (Nat.le_refl _)
  refine ext_byt (by omega) fun k hk => ?_
  rw [byt_extract _ _ _ _ (Nat.le_refl _), if_pos (by omega), byt_append, if_neg (by omega)]
  congr 1
  omega
/-- the world in which one box holds these two -/
structure Bx1 (w W : World) (a b : Value) : Prop where
  hB : Below w.heap.size w W
  hz : w.heap.size < W.heap.size
  c0 : W.cell? ⟨w.heap.size, 0, none⟩ = some a
  c1 : W.cell? ⟨w.heap.size, 1, none⟩ = some b
theorem Bx1.next {w W W' : World} {a b : Value} (h : Bx1 w W a b) (hb : Below W.heap.size W W') : Bx1 w W' a b := by
  obtain ⟨hB, hz, c0, c1⟩ := h
  have := hb.size
  exact ⟨hB.trans (hb.mono hB.size), by omega, (hb.cell (p := ⟨w.heap.size, 0, none⟩) (by show w.heap.size < _; omega)).trans c0, (hb.cell (p := ⟨w.heap.size, 1, none⟩) (by show w.heap.size < _; omega)).trans c1⟩
theorem Bx1.drewN {w W : World} {a b : Value} (h : Bx1 w W a b) (k : Nat) : Bx1 w (W.drewN k) a b := by
  obtain ⟨hB, hz, c0, c1⟩ := h
  exact ⟨bDrewN hB, hz, c0, c1⟩
theorem Bx1.new {w : World} {a b : Value} (t : TypeId) : Bx1 w (w.alloc (.cells #[a, b] t)) a b :=
  ⟨by (repeat' first | exact Below.refl _ _ | (with_reducible assumption) | (with_reducible refine bAlloc (by first | omega | (simp <;> omega)) ?_) | (with_reducible refine bSet (by first | omega | (simp <;> omega)) ?_) | (with_reducible refine bDrew ?_) | (with_reducible refine bDrewN ?_) | (with_reducible refine bTrans (by with_reducible assumption) (by first | omega | (simp <;> omega)) ?_)), by simp, by simp [go_sem], by simp [go_sem]⟩
set_option maxHeartbeats 2000000 in
set_option maxRecDepth 100000 in
theorem TextW (c : ByteArray) (n : Int) (w : World) (hT : Lv w) :
    Calls Tryd.prog 15 #[mv c n] w fun e w' => e = .returned (.string (textM c n)) ∧ Below w.heap.size w w' := by
  have hM := fun w => MayW c n w
  cases hm : mayM c n with
  | false =>
    have he := Lib.hid (show textM c n = ⟨#[]⟩ by unfold textM; rw [hm]; rfl)
    simp only [hm] at hM
    clear hm
    go_enter Tryd.func15, Tryd.ntmps15
    go_wp2_with (go_at_call 22; refine (hM _).mono ?_; rintro e w1 ⟨rfl, hxb⟩; (obtain ⟨hxc, hxf⟩ := bcell hxb; have hxz := hxb.size; (try simp [Nat.succ_le_iff] at hxz); (try have hxy := Nat.lt_of_succ_lt hxz); (try have hxy2 := Nat.lt_of_succ_lt hxy); (try have hxy3 := Nat.lt_of_succ_lt hxy2); (try have hxy4 := Nat.lt_of_succ_lt hxy3); have hxB : Below w.heap.size w w1 := (by (repeat' first | exact Below.refl _ _ | (with_reducible assumption) | (with_reducible refine bAlloc (by first | omega | (simp <;> omega)) ?_) | (with_reducible refine bSet (by first | omega | (simp <;> omega)) ?_) | (with_reducible refine bDrew ?_) | (with_reducible refine bDrewN ?_) | (with_reducible refine bTrans (by with_reducible assumption) (by first | omega | (simp <;> omega)) ?_))); have hxk := below_all hxB; (try have hxl0 : w.heap.size < w1.heap.size := (by omega)); (try have hxl1 : w.heap.size + 1 < w1.heap.size := (by omega)); (try have hxl2 : w.heap.size + 2 < w1.heap.size := (by omega))))
    go_ret
    rw [he.out]
    exact ⟨rfl, by (repeat' first | exact Below.refl _ _ | (with_reducible assumption) | (with_reducible refine bAlloc (by first | omega | (simp <;> omega)) ?_) | (with_reducible refine bSet (by first | omega | (simp <;> omega)) ?_) | (with_reducible refine bDrew ?_) | (with_reducible refine bDrewN ?_) | (with_reducible refine bTrans (by with_reducible assumption) (by first | omega | (simp <;> omega)) ?_))⟩
  | true =>
    have he := Lib.hid (show textM c n = moneyB c n by unfold textM; rw [hm]; rfl)
    obtain ⟨hc, i0, i1⟩ := mayM_iff.1 hm
    have hc3 := cur_size hc
    have hD := fun w => digitsW c w
    have hd3 := digN_le c
    simp only [hm] at hM
    clear hm hc
    obtain ⟨d, hd⟩ : ∃ d, digN c = d := ⟨_, rfl⟩
    have hb := Lib.hid (show moneyB c n = c ++ ⟨#[32]⟩ ++ signB n ++ bodyB d n.natAbs by unfold moneyB; rw [hd])
    rw [hd] at hD hd3
    clear hd
    have hF : ∀ m : Int, 0 ≤ m → m.natAbs = n.natAbs → ∀ w', Below w.heap.size w w' → Calls Tryd.prog 36 #[.int .i64 m, .int .i64 10] w' fun e w'' => e = .returned (.string (decB n.natAbs)) ∧ Below w'.heap.size w' w'' := by
      intro m h0 h1 w' hb
      rw [← h1]
      exact formatW m h0 (by omega) w' (hT.next hb)
    have hW0 : Bx1 w (w.alloc (.cells #[.string c, .int .i64 n] 23)) (.string c) (.int .i64 n) := Bx1.new _
    have hzs := dig_bound 13 n.natAbs (by omega) (by omega)
    obtain ⟨A, B, hA, hB, hAB, hBz⟩ := pad_split d n.natAbs
    have hs1 : 1 ≤ (decB n.natAbs).size := by rw [decB_size]; exact nd_pos _
    rw [← decB_size] at hzs
    have hf := Lib.hid (show textM c n = c ++ ⟨#[32]⟩ ++ signB n ++ (if d = 0 then decB n.natAbs else A ++ ⟨#[46]⟩ ++ B) by
      rw [he.out, hb.out]
      unfold bodyB
      rw [hA, hB])
    clear he hb
    have HAB := Lib.hid hAB
    have HB := Lib.hid hBz
    clear hA hB hAB hBz
    generalize decB n.natAbs = S at *
    have HC := Lib.hid hc3
    have hcI : c.size ≤ 3 := by omega
    clear hc3
    have hsg : ∀ m : Int, m = n → signB m = signB n := fun m h => by rw [h]
    have hR := fun k h => repW k h
    by_cases hd0 : d = 0
    · rw [if_pos hd0] at hf
      subst hd0
      clear HAB HB hR hd3
      by_cases hn : n < 0
      all_goals
        have hsn : signB n = (if n < 0 then ⟨#[45]⟩ else ⟨#[]⟩) := rfl
        first | rw [if_pos hn] at hsn | rw [if_neg hn] at hsn
        rw [hsn] at hf
        clear hsn hsg
        have hn2 : n < 0 ∨ 0 ≤ n := by omega
        first | (have hF1 := hF (-n) (by omega) (by omega)) | (have hF1 := hF n (by omega) rfl)
        clear hF
        go_enter Tryd.func15, Tryd.ntmps15
        go_wp2_with (go_at_call 22; (with_reducible refine (hM _).mono ?_); rintro e w1 ⟨rfl, hxb⟩; (have hWn : Bx1 w w1 (.string c) (.int .i64 n) := Bx1.next (by repeat' first | (with_reducible assumption) | (with_reducible refine Bx1.drewN ?_ _)) hxb); clear hxb; obtain ⟨hxB, hxl0, hxq0, hxq1⟩ := id hWn)
        go_quiet (fail)
        go_wp2_with (first | (go_at_call 36; (with_reducible refine (hF1 _ (by (repeat' first | exact Below.refl _ _ | (with_reducible assumption) | (with_reducible refine bAlloc (by first | omega | (simp <;> omega)) ?_) | (with_reducible refine bSet (by first | omega | (simp <;> omega)) ?_) | (with_reducible refine bDrew ?_) | (with_reducible refine bDrewN ?_) | (with_reducible refine bTrans (by with_reducible assumption) (by first | omega | (simp <;> omega)) ?_)))).mono ?_); rintro e w1 ⟨rfl, hxb⟩; (have hWn : Bx1 w w1 (.string c) (.int .i64 n) := Bx1.next (by repeat' first | (with_reducible assumption) | (with_reducible refine Bx1.drewN ?_ _)) hxb); clear hxb; obtain ⟨hxB, hxl0, hxq0, hxq1⟩ := id hWn) | (go_at_call 35; (with_reducible refine (hD _).mono ?_); rintro e w' ⟨rfl, rfl⟩))
        go_ret
        rw [hf.out]
        exact ⟨rfl, by (repeat' first | exact Below.refl _ _ | (with_reducible assumption) | (with_reducible refine bAlloc (by first | omega | (simp <;> omega)) ?_) | (with_reducible refine bSet (by first | omega | (simp <;> omega)) ?_) | (with_reducible refine bDrew ?_) | (with_reducible refine bDrewN ?_) | (with_reducible refine bTrans (by with_reducible assumption) (by first | omega | (simp <;> omega)) ?_))⟩
    · rw [if_neg hd0] at hf
      by_cases hl : S.size ≤ d
      · obtain ⟨k, hk⟩ : ∃ k, d + 1 - S.size = k := ⟨_, rfl⟩
        have hkI : ((k : Nat) : Int) = (d : Int) + 1 - S.size := by omega
        have hRep := fun w => hR k (by omega) w
        have hz := zerosB_size k
        rw [hk] at HAB
        rw [hkI] at hRep
        clear hR hk
        generalize zerosB k = Z at *
        have hsz : (A ++ B).size = d + 1 := by rw [← HAB.out, ByteArray.size_append]; omega
        have hA1 : A.size = 1 := by
          have := ByteArray.size_append (a := A) (b := B)
          have := HB.out
          omega
        have hL0 : (A ++ B).extract 0 1 = A := ext_left A B _ hA1.symm
        have hR0 : (A ++ B).extract 1 (d + 1) = B := by rw [← hsz]; exact ext_right A B _ hA1.symm
        have he1 : ((d : Nat) : Int) + 1 - d = 1 := by omega
        have hZS := HAB.out
        have hB2 := HB.out
        clear HAB HB
        by_cases hn : n < 0
        all_goals
          have hsn : signB n = (if n < 0 then ⟨#[45]⟩ else ⟨#[]⟩) := rfl
          first | rw [if_pos hn] at hsn | rw [if_neg hn] at hsn
          rw [hsn] at hf
          clear hsn hsg
          have hn2 : n < 0 ∨ 0 ≤ n := by omega
          first | (have hF1 := hF (-n) (by omega) (by omega)) | (have hF1 := hF n (by omega) rfl)
          clear hF
          go_enter Tryd.func15, Tryd.ntmps15
          go_wp2_with (go_at_call 22; (with_reducible refine (hM _).mono ?_); rintro e w1 ⟨rfl, hxb⟩; (have hWn : Bx1 w w1 (.string c) (.int .i64 n) := Bx1.next (by repeat' first | (with_reducible assumption) | (with_reducible refine Bx1.drewN ?_ _)) hxb); clear hxb; obtain ⟨hxB, hxl0, hxq0, hxq1⟩ := id hWn)
          go_quiet (fail)
          go_wp2_with (first | (go_at_call 36; (with_reducible refine (hF1 _ (by (repeat' first | exact Below.refl _ _ | (with_reducible assumption) | (with_reducible refine bAlloc (by first | omega | (simp <;> omega)) ?_) | (with_reducible refine bSet (by first | omega | (simp <;> omega)) ?_) | (with_reducible refine bDrew ?_) | (with_reducible refine bDrewN ?_) | (with_reducible refine bTrans (by with_reducible assumption) (by first | omega | (simp <;> omega)) ?_)))).mono ?_); rintro e w1 ⟨rfl, hxb⟩; (have hWn : Bx1 w w1 (.string c) (.int .i64 n) := Bx1.next (by repeat' first | (with_reducible assumption) | (with_reducible refine Bx1.drewN ?_ _)) hxb); clear hxb; obtain ⟨hxB, hxl0, hxq0, hxq1⟩ := id hWn) | (go_at_call 35; (with_reducible refine (hD _).mono ?_); rintro e w' ⟨rfl, rfl⟩) | (go_at_call 37; (with_reducible refine (hRep _).mono ?_); rintro e w1 ⟨rfl, hxb⟩; (have hWn : Bx1 w w1 (.string c) (.int .i64 n) := Bx1.next (by repeat' first | (with_reducible assumption) | (with_reducible refine Bx1.drewN ?_ _)) hxb); clear hxb; obtain ⟨hxB, hxl0, hxq0, hxq1⟩ := id hWn))
          go_quiet (fail)
          go_wp2
          go_ret
          rw [hf.out, ← ByteArray.append_assoc, ← ByteArray.append_assoc]
          exact ⟨rfl, by (repeat' first | exact Below.refl _ _ | (with_reducible assumption) | (with_reducible refine bAlloc (by first | omega | (simp <;> omega)) ?_) | (with_reducible refine bSet (by first | omega | (simp <;> omega)) ?_) | (with_reducible refine bDrew ?_) | (with_reducible refine bDrewN ?_) | (with_reducible refine bTrans (by with_reducible assumption) (by first | omega | (simp <;> omega)) ?_))⟩
      · have hS : S = A ++ B := by
          rw [← HAB.out, show d + 1 - S.size = 0 by omega]
          apply ByteArray.ext
          simp [zerosB, Lib.repeatL, ByteArray.data_append]
        subst hS
        clear hR HAB
        have hsz : (A ++ B).size = A.size + d := by rw [ByteArray.size_append, HB.out]
        have hL0 : (A ++ B).extract 0 A.size = A := ext_left A B _ rfl
        have hR0 : (A ++ B).extract A.size (A.size + d) = B := by rw [← hsz]; exact ext_right A B _ rfl
        have he1 : (A.size : Int) + d - d = A.size := by omega
        have hB2 := HB.out
        clear HB
        rw [hsz] at hzs hs1 hl
        by_cases hn : n < 0
        all_goals
          have hsn : signB n = (if n < 0 then ⟨#[45]⟩ else ⟨#[]⟩) := rfl
          first | rw [if_pos hn] at hsn | rw [if_neg hn] at hsn
          rw [hsn] at hf
          clear hsn hsg
          have hn2 : n < 0 ∨ 0 ≤ n := by omega
          first | (have hF1 := hF (-n) (by omega) (by omega)) | (have hF1 := hF n (by omega) rfl)
          clear hF
          go_enter Tryd.func15, Tryd.ntmps15
          go_wp2_with (go_at_call 22; (with_reducible refine (hM _).mono ?_); rintro e w1 ⟨rfl, hxb⟩; (have hWn : Bx1 w w1 (.string c) (.int .i64 n) := Bx1.next (by repeat' first | (with_reducible assumption) | (with_reducible refine Bx1.drewN ?_ _)) hxb); clear hxb; obtain ⟨hxB, hxl0, hxq0, hxq1⟩ := id hWn)
          go_quiet (fail)
          go_wp2_with (first | (go_at_call 36; (with_reducible refine (hF1 _ (by (repeat' first | exact Below.refl _ _ | (with_reducible assumption) | (with_reducible refine bAlloc (by first | omega | (simp <;> omega)) ?_) | (with_reducible refine bSet (by first | omega | (simp <;> omega)) ?_) | (with_reducible refine bDrew ?_) | (with_reducible refine bDrewN ?_) | (with_reducible refine bTrans (by with_reducible assumption) (by first | omega | (simp <;> omega)) ?_)))).mono ?_); rintro e w1 ⟨rfl, hxb⟩; (have hWn : Bx1 w w1 (.string c) (.int .i64 n) := Bx1.next (by repeat' first | (with_reducible assumption) | (with_reducible refine Bx1.drewN ?_ _)) hxb); clear hxb; obtain ⟨hxB, hxl0, hxq0, hxq1⟩ := id hWn) | (go_at_call 35; (with_reducible refine (hD _).mono ?_); rintro e w' ⟨rfl, rfl⟩))
          go_quiet (fail)
          go_wp2
          go_ret
          rw [hf.out, ← ByteArray.append_assoc, ← ByteArray.append_assoc]
          exact ⟨rfl, by (repeat' first | exact Below.refl _ _ | (with_reducible assumption) | (with_reducible refine bAlloc (by first | omega | (simp <;> omega)) ?_) | (with_reducible refine bSet (by first | omega | (simp <;> omega)) ?_) | (with_reducible refine bDrew ?_) | (with_reducible refine bDrewN ?_) | (with_reducible refine bTrans (by with_reducible assumption) (by first | omega | (simp <;> omega)) ?_))⟩
end Go.Proofs.YtgnmjopifdekiaaDoor
