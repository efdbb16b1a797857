/-
  MarkMends: of any text all right marks that are unlike it at one place are told, rising; a right mark has none.
  No conditions.
-/
import Derived.Test.YtjohlbpahaklkaaDoorS
import Derived.Test.YtjohlbpahaklkaaDoorH
namespace Go.Proofs.YtjohlbpahaklkaaDoor
set_option linter.unusedVariables false
set_option linter.unusedSimpArgs false
open Go.RowKit Go.Sort

theorem hits_len (s : ByteArray) (i : Nat) (cs : List Nat) : (hits s i cs).length ≤ cs.length := by
  unfold hits
  rw [List.length_map]
  exact List.length_filter_le _ _
theorem mendL_len (s : ByteArray) : (mendL s).length ≤ 312 := by
  have key : ∀ n, ((List.range n).flatMap fun i => hits s i (chars i)).length ≤ 26 * n := by
    intro n
    induction n with
    | zero => simp
    | succ n ih =>
      rw [List.range_succ, List.flatMap_append, List.length_append]
      have h1 := hits_len s n (chars n)
      have h2 : (chars n).length ≤ 26 := by unfold chars; split <;> simp
      simp only [List.flatMap_cons, List.flatMap_nil, List.append_nil]
      omega
  exact key 12
theorem mendNo' (s : ByteArray) (w : World) (hz : s.size ≠ 12) : Calls Tryd.prog 23 #[.string s] w (RetL w []) := by
  have hzI : ((s.size : Int) != 12) = true := by simp; omega
  clear hz
  go_enter Tryd.func23, Tryd.ntmps23
  go_wp2
  go_ret
  exact ⟨none, 0, rfl, Sl.nil w, by (repeat' first | exact Below.refl _ _ | (with_reducible assumption) | (with_reducible refine bAlloc (by first | omega | (simp <;> omega)) ?_) | (with_reducible refine bSet (by first | omega | (simp <;> omega)) ?_) | (with_reducible refine bDrew ?_) | (with_reducible refine bDrewN ?_) | (with_reducible refine bTrans (by with_reducible assumption) (by first | omega | (simp <;> omega)) ?_))⟩
theorem refMendNo (s : ByteArray) (w : World) (hz : s.size ≠ 12) : Calls Tryd.prog 25 #[.string s] w (RetL w []) := by
  have hzI : ((s.size : Int) != 12) = true := by simp; omega
  clear hz
  go_enter Tryd.func25, Tryd.ntmps25
  go_wp2
  go_ret
  exact ⟨_, 0, rfl, Sl.empty w _, by (repeat' first | exact Below.refl _ _ | (with_reducible assumption) | (with_reducible refine bAlloc (by first | omega | (simp <;> omega)) ?_) | (with_reducible refine bSet (by first | omega | (simp <;> omega)) ?_) | (with_reducible refine bDrew ?_) | (with_reducible refine bDrewN ?_) | (with_reducible refine bTrans (by with_reducible assumption) (by first | omega | (simp <;> omega)) ?_))⟩
theorem mend_any (s : ByteArray) : ∃ L : List (List UInt8), L.length ≤ 312 ∧ (∀ w, Calls Tryd.prog 23 #[.string s] w (RetL w L)) ∧ (∀ w, Calls Tryd.prog 25 #[.string s] w (RetL w L)) ∧ (rightB s = true → L.length = 0) ∧ (s.size = 12 → L = (mendL s).mergeSort leB) := by
  by_cases hz : s.size = 12
  · refine ⟨(mendL s).mergeSort leB, by rw [List.length_mergeSort]; exact mendL_len s, mendW s hz, refMendW s hz, fun h => by rw [List.length_mergeSort, mend_right h]; rfl, fun _ => rfl⟩
  · exact ⟨[], by simp, fun w => mendNo' s w hz, fun w => refMendNo s w hz, fun _ => rfl, fun h => absurd h hz⟩
set_option maxHeartbeats 1000000 in
theorem mendsW (s : ByteArray) (w : World) (hs : s.size ≤ maxLen) (hT : Tb w) :
    Calls Tryd.prog 8 #[.string s] w fun e w' => e = .returned (.bool true) ∧ Below w.heap.size w w' := by
  have hA := fun w h => awakeW w h
  by_cases hz : (200 : Int) < s.size
  · go_enter Tryd.func8, Tryd.ntmps8
    go_wp2_with (go_at_call 11; refine (hA _ hT).mono ?_; rintro e w1 ⟨rfl, hxb⟩; (obtain ⟨hxc, hxf⟩ := bcell hxb; have hxz := hxb.size; (try simp [Nat.succ_le_iff] at hxz); (try have hxy := Nat.lt_of_succ_lt hxz); (try have hxy2 := Nat.lt_of_succ_lt hxy); (try have hxy3 := Nat.lt_of_succ_lt hxy2); (try have hxy4 := Nat.lt_of_succ_lt hxy3); have hxB : Below w.heap.size w w1 := (by (repeat' first | exact Below.refl _ _ | (with_reducible assumption) | (with_reducible refine bAlloc (by first | omega | (simp <;> omega)) ?_) | (with_reducible refine bSet (by first | omega | (simp <;> omega)) ?_) | (with_reducible refine bDrew ?_) | (with_reducible refine bDrewN ?_) | (with_reducible refine bTrans (by with_reducible assumption) (by first | omega | (simp <;> omega)) ?_))); have hxk := below_all hxB; (try have hxl0 : w.heap.size < w1.heap.size := (by omega)); (try have hxl1 : w.heap.size + 1 < w1.heap.size := (by omega)); (try have hxl2 : w.heap.size + 2 < w1.heap.size := (by omega))))
    all_goals (go_ret; go_light; exact ⟨rfl, by (repeat' first | exact Below.refl _ _ | (with_reducible assumption) | (with_reducible refine bAlloc (by first | omega | (simp <;> omega)) ?_) | (with_reducible refine bSet (by first | omega | (simp <;> omega)) ?_) | (with_reducible refine bDrew ?_) | (with_reducible refine bDrewN ?_) | (with_reducible refine bTrans (by with_reducible assumption) (by first | omega | (simp <;> omega)) ?_))⟩)
  · obtain ⟨L, hl, h1, h2, h3, -⟩ := mend_any s
    have hS := fun (w : World) (A B : Option Addr) (c d : Nat) (ha : Sl w A c L) (hb : Sl w B d L) => sameW A B c d L L w ha.row hb.row (by omega) (by omega)
    have hR := fun w => qB' (rightW s w hs)
    simp only [eq_self, decide_true] at hS
    have hl0 : rightB s = true → (L.length : Int) = 0 := fun h => by rw [h3 h]; rfl
    clear h3
    cases hr : rightB s
    all_goals
      simp only [hr] at hR
      first | (have hlz := hl0 hr) | skip
      clear hl0 hr
      go_enter Tryd.func8, Tryd.ntmps8
      go_wp2_with (first | (go_at_call 11; refine (hA _ hT).mono ?_; rintro e w1 ⟨rfl, hxb⟩; (obtain ⟨hxc, hxf⟩ := bcell hxb; have hxz := hxb.size; (try simp [Nat.succ_le_iff] at hxz); (try have hxy := Nat.lt_of_succ_lt hxz); (try have hxy2 := Nat.lt_of_succ_lt hxy); (try have hxy3 := Nat.lt_of_succ_lt hxy2); (try have hxy4 := Nat.lt_of_succ_lt hxy3); have hxB : Below w.heap.size w w1 := (by (repeat' first | exact Below.refl _ _ | (with_reducible assumption) | (with_reducible refine bAlloc (by first | omega | (simp <;> omega)) ?_) | (with_reducible refine bSet (by first | omega | (simp <;> omega)) ?_) | (with_reducible refine bDrew ?_) | (with_reducible refine bDrewN ?_) | (with_reducible refine bTrans (by with_reducible assumption) (by first | omega | (simp <;> omega)) ?_))); have hxk := below_all hxB; (try have hxl0 : w.heap.size < w1.heap.size := (by omega)); (try have hxl1 : w.heap.size + 1 < w1.heap.size := (by omega)); (try have hxl2 : w.heap.size + 2 < w1.heap.size := (by omega)))) | (go_at_call 23; (with_reducible refine (h1 _).mono ?_); rintro e wA ⟨A, cA, rfl, hsA, hxA⟩; (have hBA : Below w.heap.size w wA := by (repeat' first | exact Below.refl _ _ | (with_reducible assumption) | (with_reducible refine bAlloc (by first | omega | (simp <;> omega)) ?_) | (with_reducible refine bSet (by first | omega | (simp <;> omega)) ?_) | (with_reducible refine bDrew ?_) | (with_reducible refine bDrewN ?_) | (with_reducible refine bTrans (by with_reducible assumption) (by first | omega | (simp <;> omega)) ?_))); have hzA := hBA.size) | (go_at_call 25; (with_reducible refine (h2 _).mono ?_); rintro e wB ⟨B, cB, rfl, hsB, hxb⟩; (have hsA' := hsA.next hxb); (have hBB : Below w.heap.size w wB := by (repeat' first | exact Below.refl _ _ | (with_reducible assumption) | (with_reducible refine bAlloc (by first | omega | (simp <;> omega)) ?_) | (with_reducible refine bSet (by first | omega | (simp <;> omega)) ?_) | (with_reducible refine bDrew ?_) | (with_reducible refine bDrewN ?_) | (with_reducible refine bTrans (by with_reducible assumption) (by first | omega | (simp <;> omega)) ?_))); have hzB := hBB.size) | (go_at_call 24; (with_reducible refine (hS _ _ _ _ _ hsA' hsB).mono ?_); rintro e w1 ⟨rfl, hxb⟩; (have hBC : Below w.heap.size w w1 := by (repeat' first | exact Below.refl _ _ | (with_reducible assumption) | (with_reducible refine bAlloc (by first | omega | (simp <;> omega)) ?_) | (with_reducible refine bSet (by first | omega | (simp <;> omega)) ?_) | (with_reducible refine bDrew ?_) | (with_reducible refine bDrewN ?_) | (with_reducible refine bTrans (by with_reducible assumption) (by first | omega | (simp <;> omega)) ?_))); have hzC := hBC.size) | (go_at_call 15; refine (hR _).mono ?_; rintro e w1 ⟨rfl, hxb⟩; (obtain ⟨hxc, hxf⟩ := bcell hxb; have hxz := hxb.size; (try simp [Nat.succ_le_iff] at hxz); (try have hxy := Nat.lt_of_succ_lt hxz); (try have hxy2 := Nat.lt_of_succ_lt hxy); (try have hxy3 := Nat.lt_of_succ_lt hxy2); (try have hxy4 := Nat.lt_of_succ_lt hxy3); have hxB : Below w.heap.size w w1 := (by (repeat' first | exact Below.refl _ _ | (with_reducible assumption) | (with_reducible refine bAlloc (by first | omega | (simp <;> omega)) ?_) | (with_reducible refine bSet (by first | omega | (simp <;> omega)) ?_) | (with_reducible refine bDrew ?_) | (with_reducible refine bDrewN ?_) | (with_reducible refine bTrans (by with_reducible assumption) (by first | omega | (simp <;> omega)) ?_))); have hxk := below_all hxB; (try have hxl0 : w.heap.size < w1.heap.size := (by omega)); (try have hxl1 : w.heap.size + 1 < w1.heap.size := (by omega)); (try have hxl2 : w.heap.size + 2 < w1.heap.size := (by omega)))))
      all_goals (go_ret; go_light; exact ⟨rfl, by (repeat' first | exact Below.refl _ _ | (with_reducible assumption) | (with_reducible refine bAlloc (by first | omega | (simp <;> omega)) ?_) | (with_reducible refine bSet (by first | omega | (simp <;> omega)) ?_) | (with_reducible refine bDrew ?_) | (with_reducible refine bDrewN ?_) | (with_reducible refine bTrans (by with_reducible assumption) (by first | omega | (simp <;> omega)) ?_))⟩)
open Go.ChangeShapes Go.WideShapes Go.ChangeAt Go.Deep in
open Go.ChangeMaps (open_string) in
set_option maxRecDepth 100000 in
theorem markMends_lifted (os : Os) (started : os.Started) (H : Type) (enc : TypeId × Value → H) :
    ReturnsInHanded {} Tryd.checked os 8 .any (fun w args => (Rows.markMendsSpec.pre enc Tryd.prog Tryd.f8 [] false w args ∧ laidMetH Tryd.prog Rows.markMendsRow.laid w) ∧ sizedMet enc Tryd.prog Tryd.f8 (OpenSpec.ofChange Rows.markMendsSpec) false w args)
      (Rows.markMendsSpec.post enc Tryd.prog Tryd.f8 false true false false) := by
  refine returnsInHanded_of_change_and (C := Tryd.checked) (X := fun w _ => laidMetH Tryd.prog Rows.markMendsRow.laid w) (fun _ _ _ hh h => h.of_heap hh) own_ started (by kernel_rfl) Tryd.func8
    (ChangeSpec.witness_shaped (enc := enc) (C := Tryd.checked) (os := os) (X := fun w _ => laidMetH Tryd.prog Rows.markMendsRow.laid w) false (World.doorLaid Tryd.prog doorN os) #[.string ⟨#[]⟩] 8 rfl (World.shaped_of_RefB (by kernel_rfl) (by kernel_rfl)) (by kernel_rfl) (by kernel_rfl) (by kernel_rfl) (door_met os _)) ?_
  intro W base args ds gs before hval0 hW _ _ hL _
  have hval : ∀ (j : Nat) t v, Tryd.f8.params[j]? = some t → args[j]? = some v → Value.okWide Tryd.prog W .any base t v := hval0
  have hW' := hW
  have hT := tb_of hL
  obtain ⟨p, q, hA0, hV, rfl, hfz, hnd⟩ := hW
  have hA : DataW.TrodAll enc Tryd.prog W 0 (fun _ => true) true Tryd.f8.params.toList args.toList ds p := hA0
  rw [Tryd.params8] at hA hval
  obtain ⟨v0, d0, rfl, rfl, h0⟩ := trodAll_one hA
  obtain ⟨rfl, rfl⟩ := trodVars_none hV
  (obtain ⟨s, rfl, -, -, hs⟩ := open_string Tryd.underlying9 (hval 0 9 v0 rfl rfl) h0)
  refine (mendsW s W hs hT).mono fun e W' ⟨he, hb⟩ => ?_
  subst he
  exact ⟨_, rfl, law_post laidOut_ (by kernel_rfl) rfl Tryd.underlying4 rfl rfl hW' hb⟩

open Go.WideShapes Go.ChangeAt in
theorem markMends_said : Rows.MarkMendsSaid :=
  OpenClaim.holds_of_wide 8 Tryd.f8 rfl rfl rfl rfl rfl rfl rfl ⟨rfl, rfl, rfl, rfl, rfl⟩ rfl rfl rfl rfl rfl (by kernel_rfl) Tryd.func8 (by kernel_rfl)
    (of_decide_eq_true (by kernel_rfl)) (by unfold Func.isWrapper; first | (rw [if_pos (by decide +kernel)]; kernel_rfl) | (rw [if_neg (by decide +kernel)]; exact ⟨rfl, rfl⟩))
    (fun os started H enc _ => markMends_lifted os started H enc)
theorem markMends_card : Rows.MarkMendsCardSaid :=
  Claim7.holds_tied_plain_at .later [] _ _ _ _ markMends_said (fun _ h => by cases h) (by kernel_rfl) (fun _ h => by cases h) markMends_row_tie rfl ⟨rfl, rfl⟩ (by kernel_rfl) rfl (plain_ (by kernel_rfl) 8 Tryd.f8 (by kernel_rfl) Tryd.func8 (by kernel_rfl)) (by kernel_rfl)
#print axioms markMends_card
end Go.Proofs.YtjohlbpahaklkaaDoor
