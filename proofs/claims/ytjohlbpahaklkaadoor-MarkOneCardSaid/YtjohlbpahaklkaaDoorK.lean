/-
  MarkTurns.
-/
import Derived.Test.YtjohlbpahaklkaaDoorH
import Derived.Test.YtjohlbpahaklkaaDoorQ
import Derived.RegionTactic
import Derived.ChangeAlike
namespace Go.Proofs.YtjohlbpahaklkaaDoor
set_option linter.unusedVariables false
set_option linter.unusedSimpArgs false
open Go.RowKit

theorem mk_cases (o : ByteArray) (n : Int) : (mkE o n ≠ 0 ∧ mkS o n = ⟨#[]⟩) ∨ (mkE o n = 0 ∧ mkS o n = makeB o n.toNat ∧ o.size = 4 ∧ rng lowI o 0 4 = true ∧ 0 ≤ n ∧ n < 1000000) := by
  by_cases h : o.size = 4 ∧ rng lowI o 0 4 = true
  · by_cases hn : 0 ≤ n ∧ n < 1000000
    · have e : mkE o n = 0 := by unfold mkE; rw [if_pos h, if_pos hn]
      exact .inr ⟨e, by unfold mkS; rw [if_pos e], h.1, h.2, hn.1, hn.2⟩
    · have e : mkE o n = 3 := by unfold mkE; rw [if_pos h, if_neg hn]
      exact .inl ⟨by omega, by unfold mkS; rw [e]; rfl⟩
  · have e : mkE o n = 1 := by unfold mkE; rw [if_neg h]
    exact .inl ⟨by omega, by unfold mkS; rw [e]; rfl⟩
theorem qB' {P : Program} {f : FuncId} {args : Array Value} {w : World} {v : Value} (h : Calls P f args w fun e w' => e = .returned v ∧ ∃ m, w' = w.drewN m) : Calls P f args w fun e w' => e = .returned v ∧ Below w.heap.size w w' :=
  h.mono fun _ _ ⟨he, _, hm⟩ => ⟨he, hm ▸ bDrewN (Below.refl _ _)⟩
theorem conv2d (W : World) (x y : Int) : (convert 29 9 (.slice (some ⟨W.heap.size, 0, none⟩) 2 2)).run Tryd.prog (W.alloc (.cells #[.int .u8 x, .int .u8 y] 5)).drew = .ok (.string (strOfNums [x, y])) (W.alloc (.cells #[.int .u8 x, .int .u8 y] 5)).drew :=
  run_convert_bytes_arg _ 29 5 Tryd.underlying29 Tryd.underlying5 W.heap.size 0 2 2 [x, y] rfl (fun i hi => by
    show (W.alloc _).cell? _ = _
    rw [World.cell?_alloc_new]
    match i, hi with
    | 0, _ => rfl
    | 1, _ => rfl) 9 Tryd.underlying9
theorem str_eqB (a b : ByteArray) : (a.toList == b.toList) = decide (a = b) := by
  rw [Bool.eq_iff_iff, beq_iff_eq, decide_eq_true_eq, ByteArray.toList_eq, ByteArray.toList_eq]
  constructor
  · intro h
    exact ByteArray.ext (Array.ext' h)
  · rintro rfl; rfl
theorem byt_str2 (x y : UInt8) (k : Nat) : byt (strOfNums [(x.toNat : Int), (y.toNat : Int)]) k = if k = 0 then (x.toNat : Int) else if k = 1 then (y.toNat : Int) else -1 := by
  have e : strOfNums [(x.toNat : Int), (y.toNat : Int)] = ⟨#[x, y]⟩ := by
    unfold strOfNums
    simp
  rw [e]
  match k with
  | 0 => rfl
  | 1 => rfl
  | k + 2 => rw [byt_out _ _ (by show ¬ k + 2 < 2; omega), if_neg (by omega), if_neg (by omega)]
/-- the turned text -/
theorem turned_right {S : ByteArray} (hr : rightB S = true) (a : Nat) (ha : a ≤ 10) (k0 : a < S.size) (k1 : a + 1 < S.size) :
    (S.extract 0 a ++ strOfNums [(S[a + 1].toNat : Int), (S[a].toNat : Int)] ++ S.extract (a + 2) 12).size = 12 ∧
    rightB (S.extract 0 a ++ strOfNums [(S[a + 1].toNat : Int), (S[a].toNat : Int)] ++ S.extract (a + 2) 12) = decide (S = S.extract 0 a ++ strOfNums [(S[a + 1].toNat : Int), (S[a].toNat : Int)] ++ S.extract (a + 2) 12) := by
  have hz := right_size hr
  have z0 := size_extract S 0 a (by omega)
  have z2 := size_extract S (a + 2) 12 (by omega)
  have z1 := str2_size (S[a + 1].toNat : Int) (S[a].toNat : Int)
  have hsz : (S.extract 0 a ++ strOfNums [(S[a + 1].toNat : Int), (S[a].toNat : Int)] ++ S.extract (a + 2) 12).size = 12 := by
    rw [ByteArray.size_append, ByteArray.size_append, z0, z1, z2]; omega
  refine ⟨hsz, swap_law hr a ha hsz ?_ ?_ fun k hk h1 h2 => ?_⟩
  · rw [byt_append, if_pos (by rw [ByteArray.size_append, z0, z1]; omega), byt_append, if_neg (by omega), z0, byt_str2, if_pos (by omega), byt_get S (a + 1) k1]
  · rw [byt_append, if_pos (by rw [ByteArray.size_append, z0, z1]; omega), byt_append, if_neg (by omega), z0, byt_str2, if_neg (by omega), if_pos (by omega), byt_get S a k0]
  · by_cases hlt : k < a
    · rw [byt_append, if_pos (by rw [ByteArray.size_append, z0, z1]; omega), byt_append, if_pos (by omega), byt_extract _ _ _ _ (by omega), if_pos (by omega), Nat.zero_add]
    · rw [byt_append, if_neg (by rw [ByteArray.size_append, z0, z1]; omega), ByteArray.size_append, z0, z1, byt_extract _ _ _ _ (by omega), if_pos (by omega)]
      congr 1; omega
set_option maxHeartbeats 1000000 in
theorem turnsW (o : ByteArray) (n at_ : Int) (w : World) (hs : o.size ≤ maxLen) (hT : Tb w) :
    Calls Tryd.prog 4 #[.string o, .int .i64 n, .int .i64 at_] w fun e w' => e = .returned (.bool true) ∧ Below w.heap.size w w' := by
  have hM := fun w h => makeW o n w hs h
  have hA := fun w h => awakeW w h
  rcases mk_cases o n with ⟨e1, e2⟩ | ⟨e1, e2, hz, hl, hn0, hn1⟩
  · rw [e2] at hM
    have e1' : (mkE o n == 0) = false := by simpa using e1
    have e1'' : (mkE o n != 0) = true := by simpa using e1
    clear e1 e2
    generalize mkE o n = E at *
    go_enter Tryd.func4, Tryd.ntmps4
    go_wp2_with (first | (go_at_call 11; refine (hA _ hT).mono ?_; rintro e w1 ⟨rfl, hxb⟩; (obtain ⟨hxc, hxf⟩ := bcell hxb; have hxz := hxb.size; (try simp [Nat.succ_le_iff] at hxz); (try have hxy := Nat.lt_of_succ_lt hxz); (try have hxy2 := Nat.lt_of_succ_lt hxy); (try have hxy3 := Nat.lt_of_succ_lt hxy2); (try have hxy4 := Nat.lt_of_succ_lt hxy3); have hxB : Below w.heap.size w w1 := (by (repeat' first | exact Below.refl _ _ | (with_reducible assumption) | (with_reducible refine bAlloc (by first | omega | (simp <;> omega)) ?_) | (with_reducible refine bSet (by first | omega | (simp <;> omega)) ?_) | (with_reducible refine bDrew ?_) | (with_reducible refine bDrewN ?_) | (with_reducible refine bTrans (by with_reducible assumption) (by first | omega | (simp <;> omega)) ?_))); have hxk := below_all hxB; (try have hxl0 : w.heap.size < w1.heap.size := (by omega)); (try have hxl1 : w.heap.size + 1 < w1.heap.size := (by omega)); (try have hxl2 : w.heap.size + 2 < w1.heap.size := (by omega)))) | (go_at_call 12; refine (hM _ (hT.next (by (repeat' first | exact Below.refl _ _ | (with_reducible assumption) | (with_reducible refine bAlloc (by first | omega | (simp <;> omega)) ?_) | (with_reducible refine bSet (by first | omega | (simp <;> omega)) ?_) | (with_reducible refine bDrew ?_) | (with_reducible refine bDrewN ?_) | (with_reducible refine bTrans (by with_reducible assumption) (by first | omega | (simp <;> omega)) ?_))))).mono ?_; rintro e w1 ⟨rfl, hxb⟩; (obtain ⟨hxc, hxf⟩ := bcell hxb; have hxz := hxb.size; (try simp [Nat.succ_le_iff] at hxz); (try have hxy := Nat.lt_of_succ_lt hxz); (try have hxy2 := Nat.lt_of_succ_lt hxy); (try have hxy3 := Nat.lt_of_succ_lt hxy2); (try have hxy4 := Nat.lt_of_succ_lt hxy3); have hxB : Below w.heap.size w w1 := (by (repeat' first | exact Below.refl _ _ | (with_reducible assumption) | (with_reducible refine bAlloc (by first | omega | (simp <;> omega)) ?_) | (with_reducible refine bSet (by first | omega | (simp <;> omega)) ?_) | (with_reducible refine bDrew ?_) | (with_reducible refine bDrewN ?_) | (with_reducible refine bTrans (by with_reducible assumption) (by first | omega | (simp <;> omega)) ?_))); have hxk := below_all hxB; (try have hxl0 : w.heap.size < w1.heap.size := (by omega)); (try have hxl1 : w.heap.size + 1 < w1.heap.size := (by omega)); (try have hxl2 : w.heap.size + 2 < w1.heap.size := (by omega)))))
    all_goals (go_ret; go_light; exact ⟨rfl, by (repeat' first | exact Below.refl _ _ | (with_reducible assumption) | (with_reducible refine bAlloc (by first | omega | (simp <;> omega)) ?_) | (with_reducible refine bSet (by first | omega | (simp <;> omega)) ?_) | (with_reducible refine bDrew ?_) | (with_reducible refine bDrewN ?_) | (with_reducible refine bTrans (by with_reducible assumption) (by first | omega | (simp <;> omega)) ?_))⟩)
  · rw [e1, e2] at hM
    have hr := make_right (n := n.toNat) hz hl
    have hz12 := make_size (n := n.toNat) hz
    generalize makeB o n.toNat = S at *
    clear e1 e2 hl hz
    by_cases ha : 0 ≤ at_ ∧ at_ ≤ 10
    · obtain ⟨a, rfl⟩ := Int.eq_ofNat_of_zero_le ha.1
      have ha2 : a ≤ 10 := by omega
      have ha3 : (a : Int) ≤ 10 := by omega
      have cv2 := conv2d
      have sz2 := str2_size
      clear ha
      have k1 : a + 1 < S.size := by omega
      have k2 : a + 2 ≤ S.size := by omega
      have k0 : a < S.size := by omega
      obtain ⟨g1, g2⟩ := turned_right hr a ha2 k0 k1
      have hR := fun w => qB' (rightW _ w (Nat.le_trans (Nat.le_of_eq g1) (by unfold maxLen; omega)))
      rw [g2] at hR
      clear hr g1 g2
      have hzI : (S.size : Int) = 12 := by omega
      have j0 : (a : Int) < 12 := by omega
      have j1 : (a : Int) + 1 < 12 := by omega
      have j2 : (a : Int) + 2 ≤ 12 := by omega
      have j3 : (a : Int) ≤ 12 := by omega
      have j4 : (0 : Int) ≤ a + 1 := by omega
      have j5 : (0 : Int) ≤ a + 2 := by omega
      have t1 : ((a : Int) + 1).toNat = a + 1 := by omega
      have t2 : ((a : Int) + 2).toNat = a + 2 := by omega
      go_enter Tryd.func4, Tryd.ntmps4
      go_wp2_with (first | (go_at_call 11; refine (hA _ hT).mono ?_; rintro e w1 ⟨rfl, hxb⟩; (obtain ⟨hxc, hxf⟩ := bcell hxb; have hxz := hxb.size; (try simp [Nat.succ_le_iff] at hxz); (try have hxy := Nat.lt_of_succ_lt hxz); (try have hxy2 := Nat.lt_of_succ_lt hxy); (try have hxy3 := Nat.lt_of_succ_lt hxy2); (try have hxy4 := Nat.lt_of_succ_lt hxy3); have hxB : Below w.heap.size w w1 := (by (repeat' first | exact Below.refl _ _ | (with_reducible assumption) | (with_reducible refine bAlloc (by first | omega | (simp <;> omega)) ?_) | (with_reducible refine bSet (by first | omega | (simp <;> omega)) ?_) | (with_reducible refine bDrew ?_) | (with_reducible refine bDrewN ?_) | (with_reducible refine bTrans (by with_reducible assumption) (by first | omega | (simp <;> omega)) ?_))); have hxk := below_all hxB; (try have hxl0 : w.heap.size < w1.heap.size := (by omega)); (try have hxl1 : w.heap.size + 1 < w1.heap.size := (by omega)); (try have hxl2 : w.heap.size + 2 < w1.heap.size := (by omega)))) | (go_at_call 12; refine (hM _ (hT.next (by (repeat' first | exact Below.refl _ _ | (with_reducible assumption) | (with_reducible refine bAlloc (by first | omega | (simp <;> omega)) ?_) | (with_reducible refine bSet (by first | omega | (simp <;> omega)) ?_) | (with_reducible refine bDrew ?_) | (with_reducible refine bDrewN ?_) | (with_reducible refine bTrans (by with_reducible assumption) (by first | omega | (simp <;> omega)) ?_))))).mono ?_; rintro e w1 ⟨rfl, hxb⟩; (obtain ⟨hxc, hxf⟩ := bcell hxb; have hxz := hxb.size; (try simp [Nat.succ_le_iff] at hxz); (try have hxy := Nat.lt_of_succ_lt hxz); (try have hxy2 := Nat.lt_of_succ_lt hxy); (try have hxy3 := Nat.lt_of_succ_lt hxy2); (try have hxy4 := Nat.lt_of_succ_lt hxy3); have hxB : Below w.heap.size w w1 := (by (repeat' first | exact Below.refl _ _ | (with_reducible assumption) | (with_reducible refine bAlloc (by first | omega | (simp <;> omega)) ?_) | (with_reducible refine bSet (by first | omega | (simp <;> omega)) ?_) | (with_reducible refine bDrew ?_) | (with_reducible refine bDrewN ?_) | (with_reducible refine bTrans (by with_reducible assumption) (by first | omega | (simp <;> omega)) ?_))); have hxk := below_all hxB; (try have hxl0 : w.heap.size < w1.heap.size := (by omega)); (try have hxl1 : w.heap.size + 1 < w1.heap.size := (by omega)); (try have hxl2 : w.heap.size + 2 < w1.heap.size := (by omega)))))
      go_region
      go_wp2_with (first | (go_at_call 15; refine (hR _).mono ?_; rintro e w1 ⟨rfl, hxb⟩; (obtain ⟨hxc, hxf⟩ := bcell hxb; have hxz := hxb.size; (try simp [Nat.succ_le_iff] at hxz); (try have hxy := Nat.lt_of_succ_lt hxz); (try have hxy2 := Nat.lt_of_succ_lt hxy); (try have hxy3 := Nat.lt_of_succ_lt hxy2); (try have hxy4 := Nat.lt_of_succ_lt hxy3); have hxB : Below w.heap.size w w1 := (by (repeat' first | exact Below.refl _ _ | (with_reducible assumption) | (with_reducible refine bAlloc (by first | omega | (simp <;> omega)) ?_) | (with_reducible refine bSet (by first | omega | (simp <;> omega)) ?_) | (with_reducible refine bDrew ?_) | (with_reducible refine bDrewN ?_) | (with_reducible refine bTrans (by with_reducible assumption) (by first | omega | (simp <;> omega)) ?_))); have hxk := below_all hxB; (try have hxl0 : w.heap.size < w1.heap.size := (by omega)); (try have hxl1 : w.heap.size + 1 < w1.heap.size := (by omega)); (try have hxl2 : w.heap.size + 2 < w1.heap.size := (by omega)))))
      all_goals (go_ret; go_light; refine ⟨ret_bool ?_, by (repeat' first | exact Below.refl _ _ | (with_reducible assumption) | (with_reducible refine bAlloc (by first | omega | (simp <;> omega)) ?_) | (with_reducible refine bSet (by first | omega | (simp <;> omega)) ?_) | (with_reducible refine bDrew ?_) | (with_reducible refine bDrewN ?_) | (with_reducible refine bTrans (by with_reducible assumption) (by first | omega | (simp <;> omega)) ?_))⟩; simp [str_eqB])
    · have hN := Lib.hid ha
      clear ha hr
      go_enter Tryd.func4, Tryd.ntmps4
      go_wp2_with (first | (go_at_call 11; refine (hA _ hT).mono ?_; rintro e w1 ⟨rfl, hxb⟩; (obtain ⟨hxc, hxf⟩ := bcell hxb; have hxz := hxb.size; (try simp [Nat.succ_le_iff] at hxz); (try have hxy := Nat.lt_of_succ_lt hxz); (try have hxy2 := Nat.lt_of_succ_lt hxy); (try have hxy3 := Nat.lt_of_succ_lt hxy2); (try have hxy4 := Nat.lt_of_succ_lt hxy3); have hxB : Below w.heap.size w w1 := (by (repeat' first | exact Below.refl _ _ | (with_reducible assumption) | (with_reducible refine bAlloc (by first | omega | (simp <;> omega)) ?_) | (with_reducible refine bSet (by first | omega | (simp <;> omega)) ?_) | (with_reducible refine bDrew ?_) | (with_reducible refine bDrewN ?_) | (with_reducible refine bTrans (by with_reducible assumption) (by first | omega | (simp <;> omega)) ?_))); have hxk := below_all hxB; (try have hxl0 : w.heap.size < w1.heap.size := (by omega)); (try have hxl1 : w.heap.size + 1 < w1.heap.size := (by omega)); (try have hxl2 : w.heap.size + 2 < w1.heap.size := (by omega)))) | (go_at_call 12; refine (hM _ (hT.next (by (repeat' first | exact Below.refl _ _ | (with_reducible assumption) | (with_reducible refine bAlloc (by first | omega | (simp <;> omega)) ?_) | (with_reducible refine bSet (by first | omega | (simp <;> omega)) ?_) | (with_reducible refine bDrew ?_) | (with_reducible refine bDrewN ?_) | (with_reducible refine bTrans (by with_reducible assumption) (by first | omega | (simp <;> omega)) ?_))))).mono ?_; rintro e w1 ⟨rfl, hxb⟩; (obtain ⟨hxc, hxf⟩ := bcell hxb; have hxz := hxb.size; (try simp [Nat.succ_le_iff] at hxz); (try have hxy := Nat.lt_of_succ_lt hxz); (try have hxy2 := Nat.lt_of_succ_lt hxy); (try have hxy3 := Nat.lt_of_succ_lt hxy2); (try have hxy4 := Nat.lt_of_succ_lt hxy3); have hxB : Below w.heap.size w w1 := (by (repeat' first | exact Below.refl _ _ | (with_reducible assumption) | (with_reducible refine bAlloc (by first | omega | (simp <;> omega)) ?_) | (with_reducible refine bSet (by first | omega | (simp <;> omega)) ?_) | (with_reducible refine bDrew ?_) | (with_reducible refine bDrewN ?_) | (with_reducible refine bTrans (by with_reducible assumption) (by first | omega | (simp <;> omega)) ?_))); have hxk := below_all hxB; (try have hxl0 : w.heap.size < w1.heap.size := (by omega)); (try have hxl1 : w.heap.size + 1 < w1.heap.size := (by omega)); (try have hxl2 : w.heap.size + 2 < w1.heap.size := (by omega)))))
      all_goals first
        | (go_ret; go_light; exact ⟨rfl, by (repeat' first | exact Below.refl _ _ | (with_reducible assumption) | (with_reducible refine bAlloc (by first | omega | (simp <;> omega)) ?_) | (with_reducible refine bSet (by first | omega | (simp <;> omega)) ?_) | (with_reducible refine bDrew ?_) | (with_reducible refine bDrewN ?_) | (with_reducible refine bTrans (by with_reducible assumption) (by first | omega | (simp <;> omega)) ?_))⟩)
        | (exfalso; have := hN.out; omega)
open Go.ChangeShapes Go.WideShapes Go.ChangeAt Go.Deep in
open Go.ChangeMaps (open_string) in
set_option maxRecDepth 100000 in
theorem markTurns_lifted (os : Os) (started : os.Started) (H : Type) (enc : TypeId × Value → H) :
    ReturnsInHanded {} Tryd.checked os 4 .any (fun w args => (Rows.markTurnsSpec.pre enc Tryd.prog Tryd.f4 [] false w args ∧ laidMetH Tryd.prog Rows.markTurnsRow.laid w) ∧ sizedMet enc Tryd.prog Tryd.f4 (OpenSpec.ofChange Rows.markTurnsSpec) false w args)
      (Rows.markTurnsSpec.post enc Tryd.prog Tryd.f4 false true false false) := by
  refine returnsInHanded_of_change_and (C := Tryd.checked) (X := fun w _ => laidMetH Tryd.prog Rows.markTurnsRow.laid w) (fun _ _ _ hh h => h.of_heap hh) own_ started (by kernel_rfl) Tryd.func4
    (ChangeSpec.witness_shaped (enc := enc) (C := Tryd.checked) (os := os) (X := fun w _ => laidMetH Tryd.prog Rows.markTurnsRow.laid w) false (World.doorLaid Tryd.prog doorN os) #[.string ⟨#[]⟩, .int .i64 0, .int .i64 0] 8 rfl (World.shaped_of_RefB (by kernel_rfl) (by kernel_rfl)) (by kernel_rfl) (by kernel_rfl) (by kernel_rfl) (door_met os _)) ?_
  intro W base args ds gs before hval0 hW _ _ hL _
  have hval : ∀ (j : Nat) t v, Tryd.f4.params[j]? = some t → args[j]? = some v → Value.okWide Tryd.prog W .any base t v := hval0
  have hW' := hW
  have hT := tb_of hL
  obtain ⟨p, q, hA0, hV, rfl, hfz, hnd⟩ := hW
  have hA : DataW.TrodAll enc Tryd.prog W 0 (fun _ => true) true Tryd.f4.params.toList args.toList ds p := hA0
  rw [Tryd.params4] at hA hval
  obtain ⟨v0, v1, v2, d0, d1, d2, p0, p1, p2, rfl, rfl, rfl, h0, h1, h2⟩ := trodAll_three hA
  obtain ⟨rfl, rfl⟩ := trodVars_none hV
  (obtain ⟨s, rfl, -, -, hs⟩ := open_string Tryd.underlying9 (hval 0 9 v0 rfl rfl) h0; obtain ⟨n, rfl, -, -, -⟩ := open_int Tryd.underlying3 (hval 1 3 v1 rfl rfl) h1; obtain ⟨a, rfl, -, -, -⟩ := open_int Tryd.underlying3 (hval 2 3 v2 rfl rfl) h2)
  refine (turnsW s n a W hs hT).mono fun e W' ⟨he, hb⟩ => ?_
  subst he
  exact ⟨_, rfl, law_post laidOut_ (by kernel_rfl) rfl Tryd.underlying4 rfl rfl hW' hb⟩

open Go.WideShapes Go.ChangeAt in
theorem markTurns_said : Rows.MarkTurnsSaid :=
  OpenClaim.holds_of_wide 4 Tryd.f4 rfl rfl rfl rfl rfl rfl rfl ⟨rfl, rfl, rfl, rfl, rfl⟩ rfl rfl rfl rfl rfl (by kernel_rfl) Tryd.func4 (by kernel_rfl)
    (of_decide_eq_true (by kernel_rfl)) (by unfold Func.isWrapper; first | (rw [if_pos (by decide +kernel)]; kernel_rfl) | (rw [if_neg (by decide +kernel)]; exact ⟨rfl, rfl⟩))
    (fun os started H enc _ => markTurns_lifted os started H enc)
theorem markTurns_card : Rows.MarkTurnsCardSaid :=
  Claim7.holds_tied_plain_at .later [] _ _ _ _ markTurns_said (fun _ h => by cases h) (by kernel_rfl) (fun _ h => by cases h) markTurns_row_tie rfl ⟨rfl, rfl⟩ (by kernel_rfl) rfl (plain_ (by kernel_rfl) 4 Tryd.f4 (by kernel_rfl) Tryd.func4 (by kernel_rfl)) (by kernel_rfl)
#print axioms markTurns_card
end Go.Proofs.YtjohlbpahaklkaaDoor
