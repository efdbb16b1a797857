/-
  MoneyScales.
-/
import Derived.Test.YtgnmjopifdekiaaDoorV
namespace Go.Proofs.YtgnmjopifdekiaaDoor
open Go.RowKit

set_option maxHeartbeats 4000000 in
set_option maxRecDepth 100000 in
theorem scalesLaw (c : ByteArray) (a n d : Int) (way : Int) (w : World) (m1 : n ≤ 9223372036854775807) (d1 : d ≤ 9223372036854775807) (hT : Lv w) :
    Calls Tryd.prog 3 #[mv c a, rv n d, .int .i64 way] w fun e w' => e = .returned (.bool true) ∧ Below w.heap.size w w' := by
  have hS := fun w => ScaleW c a n d way w m1 d1
  have hR := fun w => refScaleW c a n d way w m1 d1
  have hA := fun w' (hb : Below w.heap.size w w') => awakeW w' (hT.next hb)
  have hsm : ∃ (x : ByteArray) (y : Int) (z : Bool), resM c (scaleZ c a n d way) = .tuple #[mv x y, .bool z] := by
    cases scaleZ c a n d way
    · exact ⟨_, _, _, rfl⟩
    · exact ⟨_, _, _, rfl⟩
  obtain ⟨x, y, z, hsm⟩ := hsm
  rw [hsm] at hS hR
  clear hsm
  go_enter Tryd.func3, Tryd.ntmps3
  go_wp2_with (first | (go_at_call 11; (with_reducible refine (hS _).mono ?_); rintro e w1 ⟨rfl, hxb⟩; (obtain ⟨hxc, hxf⟩ := bcell hxb; have hxz := hxb.size; (try simp [Nat.succ_le_iff] at hxz); (try have hxy := Nat.lt_of_succ_lt hxz); (try have hxy2 := Nat.lt_of_succ_lt hxy); (try have hxy3 := Nat.lt_of_succ_lt hxy2); (try have hxy4 := Nat.lt_of_succ_lt hxy3); have hxB : Below w.heap.size w w1 := (by (repeat' first | exact Below.refl _ _ | (with_reducible assumption) | (with_reducible refine bAlloc (by first | omega | (simp <;> omega)) ?_) | (with_reducible refine bSet (by first | omega | (simp <;> omega)) ?_) | (with_reducible refine bDrew ?_) | (with_reducible refine bDrewN ?_) | (with_reducible refine bTrans (by with_reducible assumption) (by first | omega | (simp <;> omega)) ?_))); have hxk := below_all hxB; (try have hxl0 : w.heap.size < w1.heap.size := (by omega)); (try have hxl1 : w.heap.size + 1 < w1.heap.size := (by omega)); (try have hxl2 : w.heap.size + 2 < w1.heap.size := (by omega)))) | (go_at_call 12; (with_reducible refine (hR _).mono ?_); rintro e w1 ⟨rfl, hxb⟩; (obtain ⟨hxc, hxf⟩ := bcell hxb; have hxz := hxb.size; (try simp [Nat.succ_le_iff] at hxz); (try have hxy := Nat.lt_of_succ_lt hxz); (try have hxy2 := Nat.lt_of_succ_lt hxy); (try have hxy3 := Nat.lt_of_succ_lt hxy2); (try have hxy4 := Nat.lt_of_succ_lt hxy3); have hxB : Below w.heap.size w w1 := (by (repeat' first | exact Below.refl _ _ | (with_reducible assumption) | (with_reducible refine bAlloc (by first | omega | (simp <;> omega)) ?_) | (with_reducible refine bSet (by first | omega | (simp <;> omega)) ?_) | (with_reducible refine bDrew ?_) | (with_reducible refine bDrewN ?_) | (with_reducible refine bTrans (by with_reducible assumption) (by first | omega | (simp <;> omega)) ?_))); have hxk := below_all hxB; (try have hxl0 : w.heap.size < w1.heap.size := (by omega)); (try have hxl1 : w.heap.size + 1 < w1.heap.size := (by omega)); (try have hxl2 : w.heap.size + 2 < w1.heap.size := (by omega)))) | (go_at_call 13; (with_reducible refine (hA _ (by (repeat' first | exact Below.refl _ _ | (with_reducible assumption) | (with_reducible refine bAlloc (by first | omega | (simp <;> omega)) ?_) | (with_reducible refine bSet (by first | omega | (simp <;> omega)) ?_) | (with_reducible refine bDrew ?_) | (with_reducible refine bDrewN ?_) | (with_reducible refine bTrans (by with_reducible assumption) (by first | omega | (simp <;> omega)) ?_)))).mono ?_); rintro e w1 ⟨rfl, hxb⟩; (obtain ⟨hxc, hxf⟩ := bcell hxb; have hxz := hxb.size; (try simp [Nat.succ_le_iff] at hxz); (try have hxy := Nat.lt_of_succ_lt hxz); (try have hxy2 := Nat.lt_of_succ_lt hxy); (try have hxy3 := Nat.lt_of_succ_lt hxy2); (try have hxy4 := Nat.lt_of_succ_lt hxy3); have hxB : Below w.heap.size w w1 := (by (repeat' first | exact Below.refl _ _ | (with_reducible assumption) | (with_reducible refine bAlloc (by first | omega | (simp <;> omega)) ?_) | (with_reducible refine bSet (by first | omega | (simp <;> omega)) ?_) | (with_reducible refine bDrew ?_) | (with_reducible refine bDrewN ?_) | (with_reducible refine bTrans (by with_reducible assumption) (by first | omega | (simp <;> omega)) ?_))); have hxk := below_all hxB; (try have hxl0 : w.heap.size < w1.heap.size := (by omega)); (try have hxl1 : w.heap.size + 1 < w1.heap.size := (by omega)); (try have hxl2 : w.heap.size + 2 < w1.heap.size := (by omega)))))
  all_goals (go_ret; go_light; exact ⟨rfl, by (repeat' first | exact Below.refl _ _ | (with_reducible assumption) | (with_reducible refine bAlloc (by first | omega | (simp <;> omega)) ?_) | (with_reducible refine bSet (by first | omega | (simp <;> omega)) ?_) | (with_reducible refine bDrew ?_) | (with_reducible refine bDrewN ?_) | (with_reducible refine bTrans (by with_reducible assumption) (by first | omega | (simp <;> omega)) ?_))⟩)
open Go.ChangeShapes Go.WideShapes Go.ChangeAt Go.Deep in
open Go.ChangeMaps (open_string) in
set_option maxRecDepth 100000 in
theorem moneyScales_lifted (os : Os) (started : os.Started) (H : Type) (enc : TypeId × Value → H) :
    ReturnsInHanded {} Tryd.checked os 3 .any (fun w args => (Rows.moneyScalesSpec.pre enc Tryd.prog Tryd.f3 [] false w args ∧ laidMetH Tryd.prog Rows.moneyScalesRow.laid w) ∧ sizedMet enc Tryd.prog Tryd.f3 (OpenSpec.ofChange Rows.moneyScalesSpec) false w args)
      (Rows.moneyScalesSpec.post enc Tryd.prog Tryd.f3 false true false false) := by
  refine wrap_shaped (C := Tryd.checked) (X := fun w _ => laidMetH Tryd.prog Rows.moneyScalesRow.laid w) (fun _ _ _ hh h => h.of_heap hh) own_ started (by kernel_rfl) Tryd.func3
    (ChangeSpec.witness_shaped (enc := enc) (C := Tryd.checked) (os := os) (X := fun w _ => laidMetH Tryd.prog Rows.moneyScalesRow.laid w) false (World.laidAll Tryd.prog os Rows.moneyScalesRow.laid) #[.agg #[.string ⟨#[]⟩, .int .i64 0], .agg #[.int .i64 0, .int .i64 0], .int .i64 0] 8 (World.laidAll_os _ _ _) (door_shaped os) (by kernel_rfl) (by kernel_rfl) (by kernel_rfl) (door_met os _)) ?_
  intro W base args ds gs before hval0 hW hL hsh
  have hval : ∀ (j : Nat) t v, Tryd.f3.params[j]? = some t → args[j]? = some v → Value.okWide Tryd.prog W .any base t v := hval0
  have hW' := hW
  have hT := lv_of hL hsh
  obtain ⟨p, q, hA0, hV, rfl, hfz, hnd⟩ := hW
  have hA : DataW.TrodAll enc Tryd.prog W 0 (fun _ => true) true Tryd.f3.params.toList args.toList ds p := hA0
  rw [Tryd.params3] at hA hval
  obtain ⟨v0, v1, v2, d0, d1, d2, p0, p1, p2, rfl, rfl, rfl, h0, h1, h2⟩ := trodAll_three hA
  obtain ⟨rfl, rfl⟩ := trodVars_none hV
  (obtain ⟨c, a, rfl, -, -⟩ := open_mv (hval 0 23 v0 rfl rfl) h0; obtain ⟨n, d, rfl, -, m1, -, d1⟩ := open_rv (hval 1 25 v1 rfl rfl) h1; obtain ⟨k, rfl, -, -, -⟩ := open_int Tryd.underlying3 (hval 2 3 v2 rfl rfl) h2)
  refine (scalesLaw c a n d k W m1 d1 hT).mono fun e W' ⟨he, hb⟩ => ?_
  subst he
  exact ⟨_, rfl, law_post laidOut_ (by kernel_rfl) rfl Tryd.underlying4 rfl rfl hW' hb⟩

open Go.WideShapes Go.ChangeAt in
theorem moneyScales_said : Rows.MoneyScalesSaid :=
  OpenClaim.holds_of_wide 3 Tryd.f3 rfl rfl rfl rfl rfl rfl rfl ⟨rfl, rfl, rfl, rfl, rfl⟩ rfl rfl rfl rfl rfl (by kernel_rfl) Tryd.func3 (by kernel_rfl)
    (of_decide_eq_true (by kernel_rfl)) (by unfold Func.isWrapper; first | (rw [if_pos (by decide +kernel)]; kernel_rfl) | (rw [if_neg (by decide +kernel)]; exact ⟨rfl, rfl⟩))
    (fun os started H enc _ => moneyScales_lifted os started H enc)
theorem moneyScales_card : Rows.MoneyScalesCardSaid :=
  Claim7.holds_tied_plain_at .later [] _ _ _ _ moneyScales_said (fun _ h => by cases h) (by kernel_rfl) (fun _ h => by cases h) moneyScales_row_tie rfl ⟨rfl, rfl⟩ (by kernel_rfl) rfl (plain_ (by kernel_rfl) 3 Tryd.f3 (by kernel_rfl) Tryd.func3 (by kernel_rfl)) (by kernel_rfl)
#print axioms moneyScales_card
end Go.Proofs.YtgnmjopifdekiaaDoor
