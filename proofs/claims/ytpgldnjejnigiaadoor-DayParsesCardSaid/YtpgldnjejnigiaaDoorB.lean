/-
  Days: the reference's rows; calendars.
-/
import Derived.Test.YtpgldnjejnigiaaDoorA
namespace Go.Proofs.YtpgldnjejnigiaaDoor
open Go.RowKit

def inF (l : List Int) (x : Int) (k : Nat) : Bool := (l.drop k).contains x
theorem inF_step (l : List Int) (x : Int) (k : Nat) (h : k < l.length) : inF l x k = (decide (l[k] = x) || inF l x (k + 1)) := by
  unfold inF
  rw [List.drop_eq_getElem_cons h, List.contains_cons]
  congr 1
  by_cases e : l[k] = x
  · simp [e]
  · simp [e]; exact fun h => e h.symm
theorem inF_end (l : List Int) (x : Int) (k : Nat) (h : ¬ k < l.length) : inF l x k = false := by
  unfold inF
  rw [List.drop_eq_nil_of_le (by omega)]; rfl
set_option maxHeartbeats 1000000 in
theorem refInW (A : Option Addr) (n c : Nat) (l : List Int) (x : Int) (w : World) (hr : Ri w A n l) (hn : n < 4611686018427387904) :
    Calls Tryd.prog 45 #[.slice A n c, .int .i64 x] w fun e w' => e = .returned (.bool (hasI l x)) ∧ w = w' := by
  obtain rfl := hr.len
  have HR := Lib.hid hr
  clear hr
  have hz : inF l x 0 = hasI l x := rfl
  go_enter Tryd.func45, Tryd.ntmps45
  go_wp2
  go_loop [5] (fun i => ∃ k : Nat, k ≤ l.length ∧ i = .int .i64 k ∧ Hid (inF l x k = inF l x 0)) (fun i => l.length - (intOf i).toNat)
  case atStart => exact ⟨0, Nat.zero_le _, rfl, Lib.hid rfl⟩
  case round =>
    obtain ⟨k, hk, rfl, hq⟩ := hrel
    by_cases hlt : k < l.length
    · have hst := Lib.hid (inF_step l x k hlt)
      obtain ⟨b, off, rfl, hb, hc⟩ := HR.out.cell (by omega)
      have c0 := hc k hlt
      clear hc
      generalize l[k] = y at *
      go_wp2
      all_goals first
        | (go_round
           case rel => go_light; exact ⟨k + 1, by omega, by go_num, Lib.hid (by have a := hst.out; have c := hq.out; simp_all)⟩
           case measure => simp [intOf]; omega)
        | (go_ret; go_light; refine ⟨ret_bool ?_, rfl⟩; have a := hst.out; have c := hq.out; simp_all)
    · have hst := Lib.hid (inF_end l x k hlt)
      go_wp2
      all_goals (go_ret; go_light; refine ⟨ret_bool ?_, rfl⟩; have a := hst.out; have c := hq.out; simp_all)
set_option maxHeartbeats 2000000 in
theorem refRisesW (A : Option Addr) (n c : Nat) (l : List Int) (m : Int) (w : World) (hr : Ri w A n l) (hn : n < 4611686018427387904) :
    Calls Tryd.prog 42 #[.slice A n c, .int .i64 m] w fun e w' => e = .returned (.bool (riseB l m)) ∧ Below w.heap.size w w' := by
  obtain rfl := hr.len
  have HR := Lib.hid hr
  clear hr
  go_enter Tryd.func42, Tryd.ntmps42
  go_wp2
  go_loopw [5] (fun i W => ∃ k : Nat, k ≤ l.length ∧ i = .int .i64 k ∧ Below w.heap.size w W ∧ Hid (riseF l m k = riseF l m 0)) (fun i _ => l.length - (intOf i).toNat)
  case atStart => exact ⟨0, Nat.zero_le _, rfl, by (repeat' first | exact Below.refl _ _ | (with_reducible assumption) | (with_reducible refine bAlloc (by first | omega | (simp <;> omega)) ?_) | (with_reducible refine bSet (by first | omega | (simp <;> omega)) ?_) | (with_reducible refine bDrew ?_) | (with_reducible refine bDrewN ?_) | (with_reducible refine bTrans (by with_reducible assumption) (by first | omega | (simp <;> omega)) ?_)), Lib.hid rfl⟩
  case round =>
    obtain ⟨k, hk, rfl, hB, hq⟩ := hrel
    have hz0 := hB.size
    by_cases hlt : k < l.length
    · have hst := Lib.hid (riseF_step l m k hlt)
      obtain ⟨b, off, rfl, hb, hc⟩ := (HR.out.next hB).cell (by omega)
      have c0 := hc k hlt
      have hd := Lib.hid (getD_get l k hlt)
      by_cases h0 : k = 0
      · subst h0
        have hbad := Lib.hid (show badAt l m 0 = (decide (l[0] < 0) || decide (m < l[0])) by unfold badAt; rw [hd.out]; simp)
        have c0' : wr.cell? ⟨b, off, none⟩ = some (.int .i64 l[0]) := c0
        clear hc c0
        generalize l[0] = x0 at *
        by_cases t1 : x0 < 0
        · go_wp2
          go_quiet (fail)
          go_wp2
          all_goals (go_ret; go_light; refine ⟨ret_bool ?_, by (repeat' first | exact Below.refl _ _ | (with_reducible assumption) | (with_reducible refine bAlloc (by first | omega | (simp <;> omega)) ?_) | (with_reducible refine bSet (by first | omega | (simp <;> omega)) ?_) | (with_reducible refine bDrew ?_) | (with_reducible refine bDrewN ?_) | (with_reducible refine bTrans (by with_reducible assumption) (by first | omega | (simp <;> omega)) ?_))⟩; have a := hst.out; have b := hbad.out; have c := hq.out; unfold riseB; simp_all)
        · have t1' : decide (x0 < 0) = false := decide_eq_false t1
          by_cases t2 : m < x0
          · go_wp2
            go_quiet (fail)
            go_wp2
            all_goals (go_ret; go_light; refine ⟨ret_bool ?_, by (repeat' first | exact Below.refl _ _ | (with_reducible assumption) | (with_reducible refine bAlloc (by first | omega | (simp <;> omega)) ?_) | (with_reducible refine bSet (by first | omega | (simp <;> omega)) ?_) | (with_reducible refine bDrew ?_) | (with_reducible refine bDrewN ?_) | (with_reducible refine bTrans (by with_reducible assumption) (by first | omega | (simp <;> omega)) ?_))⟩; have a := hst.out; have b := hbad.out; have c := hq.out; unfold riseB; simp_all)
          · have t2' : decide (m < x0) = false := decide_eq_false t2
            go_wp2
            go_quiet (fail)
            go_wp2
            all_goals first
              | (go_roundw
                 case rel => go_light; exact ⟨1, by omega, by go_num, by (repeat' first | exact Below.refl _ _ | (with_reducible assumption) | (with_reducible refine bAlloc (by first | omega | (simp <;> omega)) ?_) | (with_reducible refine bSet (by first | omega | (simp <;> omega)) ?_) | (with_reducible refine bDrew ?_) | (with_reducible refine bDrewN ?_) | (with_reducible refine bTrans (by with_reducible assumption) (by first | omega | (simp <;> omega)) ?_)), Lib.hid (by have a := hst.out; have b := hbad.out; have c := hq.out; simp_all)⟩
                 case measure => simp [intOf]; omega)
      · have hkk : k - 1 < l.length := by omega
        have c1 := hc (k - 1) hkk
        have hkI : (0 : Int) < k := by omega
        have hbad := Lib.hid (show badAt l m k = (decide (l[k] < 0) || decide (m < l[k]) || decide (l[k] ≤ l[k - 1])) by unfold badAt; rw [hd.out, getD_get l (k - 1) hkk, decide_eq_true hkI, Bool.true_and])
        have k2 : (k : Int) - 1 < l.length := by omega
        have k3 : (0 : Int) ≤ (k : Int) - 1 := by omega
        have hkN : 0 < k := by omega
        have k4 : ((k : Int) - 1).toNat = k - 1 := by omega
        clear hc
        generalize l[k - 1] = y at *
        generalize l[k] = x0 at *
        by_cases t1 : x0 < 0
        · go_wp2
          go_quiet (fail)
          go_wp2
          all_goals (go_ret; go_light; refine ⟨ret_bool ?_, by (repeat' first | exact Below.refl _ _ | (with_reducible assumption) | (with_reducible refine bAlloc (by first | omega | (simp <;> omega)) ?_) | (with_reducible refine bSet (by first | omega | (simp <;> omega)) ?_) | (with_reducible refine bDrew ?_) | (with_reducible refine bDrewN ?_) | (with_reducible refine bTrans (by with_reducible assumption) (by first | omega | (simp <;> omega)) ?_))⟩; have a := hst.out; have b := hbad.out; have c := hq.out; unfold riseB; simp_all)
        · have t1' : decide (x0 < 0) = false := decide_eq_false t1
          by_cases t2 : m < x0
          · go_wp2
            go_quiet (fail)
            go_wp2
            all_goals (go_ret; go_light; refine ⟨ret_bool ?_, by (repeat' first | exact Below.refl _ _ | (with_reducible assumption) | (with_reducible refine bAlloc (by first | omega | (simp <;> omega)) ?_) | (with_reducible refine bSet (by first | omega | (simp <;> omega)) ?_) | (with_reducible refine bDrew ?_) | (with_reducible refine bDrewN ?_) | (with_reducible refine bTrans (by with_reducible assumption) (by first | omega | (simp <;> omega)) ?_))⟩; have a := hst.out; have b := hbad.out; have c := hq.out; unfold riseB; simp_all)
          · have t2' : decide (m < x0) = false := decide_eq_false t2
            by_cases t3 : x0 ≤ y
            · go_wp2
              go_quiet (fail)
              go_wp2
              all_goals (go_ret; go_light; refine ⟨ret_bool ?_, by (repeat' first | exact Below.refl _ _ | (with_reducible assumption) | (with_reducible refine bAlloc (by first | omega | (simp <;> omega)) ?_) | (with_reducible refine bSet (by first | omega | (simp <;> omega)) ?_) | (with_reducible refine bDrew ?_) | (with_reducible refine bDrewN ?_) | (with_reducible refine bTrans (by with_reducible assumption) (by first | omega | (simp <;> omega)) ?_))⟩; have a := hst.out; have b := hbad.out; have c := hq.out; unfold riseB; simp_all)
            · have t3' : decide (x0 ≤ y) = false := decide_eq_false t3
              go_wp2
              go_quiet (fail)
              go_wp2
              all_goals first
                | (go_roundw
                   case rel => go_light; exact ⟨k + 1, by omega, by go_num, by (repeat' first | exact Below.refl _ _ | (with_reducible assumption) | (with_reducible refine bAlloc (by first | omega | (simp <;> omega)) ?_) | (with_reducible refine bSet (by first | omega | (simp <;> omega)) ?_) | (with_reducible refine bDrew ?_) | (with_reducible refine bDrewN ?_) | (with_reducible refine bTrans (by with_reducible assumption) (by first | omega | (simp <;> omega)) ?_)), Lib.hid (by have a := hst.out; have b := hbad.out; have c := hq.out; simp_all)⟩
                   case measure => simp [intOf]; omega)
    · have hst := Lib.hid (riseF_end l m k hlt)
      go_wp2
      all_goals (go_ret; go_light; refine ⟨ret_bool ?_, by (repeat' first | exact Below.refl _ _ | (with_reducible assumption) | (with_reducible refine bAlloc (by first | omega | (simp <;> omega)) ?_) | (with_reducible refine bSet (by first | omega | (simp <;> omega)) ?_) | (with_reducible refine bDrew ?_) | (with_reducible refine bDrewN ?_) | (with_reducible refine bTrans (by with_reducible assumption) (by first | omega | (simp <;> omega)) ?_))⟩; have a := hst.out; have c := hq.out; unfold riseB; simp_all)
end Go.Proofs.YtpgldnjejnigiaaDoor
