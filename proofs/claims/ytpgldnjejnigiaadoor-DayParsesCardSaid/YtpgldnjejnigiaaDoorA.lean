/-
  Days: rows of numbers, calendars; the small functions.
-/
import Derived.Test.YtpgldnjejnigiaaDoorBase
import Derived.Test.YtpgldnjejnigiaaDoorShelf
import Derived.Test.YtpgldnjejnigiaaDoorH
namespace Go.Proofs.YtpgldnjejnigiaaDoor
open Go.RowKit

abbrev iv (l : List Int) : List Value := l.map (Value.int .i64)
/-- a []int that reads as l -/
def Ri (w : World) (A : Option Addr) (n : Nat) (l : List Int) : Prop := Rd w w.heap.size 1 A n (iv l)
theorem Ri.len {w : World} {A : Option Addr} {n : Nat} {l : List Int} (h : Ri w A n l) : n = l.length := by
  have := h.1
  simp [iv] at this
  omega
theorem Ri.next {w w' : World} {A : Option Addr} {n : Nat} {l : List Int} (h : Ri w A n l) (hb : Below w.heap.size w w') : Ri w' A n l := Rd.next h hb
theorem Ri.cell {w : World} {A : Option Addr} {n : Nat} {l : List Int} (h : Ri w A n l) (h0 : 0 < l.length) :
    ∃ b off, A = some ⟨b, off, none⟩ ∧ b < w.heap.size ∧ ∀ k (hk : k < l.length), w.cell? ⟨b, off + k, none⟩ = some (.int .i64 l[k]) := by
  have hn := h.len
  obtain ⟨⟨b, off, spot⟩, e, hb, hc⟩ := h.2 (by omega)
  have hs : spot = none := by
    have h1 := hc 0 (.int .i64 l[0]) (by simp [iv])
    simpa [Addr.add] using World.cell?_spot h1
  subst hs
  refine ⟨b, off, e, hb, fun k hk => ?_⟩
  have h1 := hc k (.int .i64 l[k]) (by simp [iv, hk])
  have e2 : (⟨b, off, none⟩ : Addr).add k = ⟨b, off + k, none⟩ := by
    unfold Addr.add
    split
    · simp_all
    · rfl
  rwa [e2] at h1
theorem containsW (A : Option Addr) (n c : Nat) (l : List Int) (x : Int) (w : World) (hr : Ri w A n l) (hn : n < 4611686018427387904) :
    Calls Tryd.prog 56 #[.slice A n c, .int .i64 x] w fun e w' => e = .returned (.bool (hasI l x)) ∧ w = w' := by
  have hl := hr.len
  by_cases h0 : 0 < l.length
  · obtain ⟨b, off, rfl, hb, hc⟩ := hr.cell h0
    refine (Tryd.slices_Contains_int b off n c l x w (by omega) (by omega) fun j hj => ?_).mono fun e w' ⟨he, hw⟩ => ⟨?_, hw.symm⟩
    · rw [hc j hj, List.getD_eq_getElem?_getD, List.getElem?_eq_getElem hj]; rfl
    · rw [he, List.take_of_length_le (by omega)]; rfl
  · obtain rfl : l = [] := List.eq_nil_of_length_eq_zero (by omega)
    obtain rfl : n = 0 := hl
    exact (Tryd.slices_Contains_int_empty A c x w).mono fun e w' ⟨he, hw⟩ => ⟨he, hw.symm⟩
theorem searchW (A : Option Addr) (n c : Nat) (l : List Int) (x : Int) (w : World) (hr : Ri w A n l) (hn : n < 4611686018427387904) (hs : l.Pairwise (· ≤ ·)) :
    Calls Tryd.prog 62 #[.slice A n c, .int .i64 x] w fun e w' => e = .returned (.tuple #[.int .i64 (l.countP (· < x) : Nat), .bool (hasI l x)]) ∧ Below w.heap.size w w' := by
  have hl := hr.len
  by_cases h0 : 0 < l.length
  · obtain ⟨b, off, rfl, hb, hc⟩ := hr.cell h0
    have ht : l.take n = l := List.take_of_length_le (by omega)
    refine (Tryd.slices_BinarySearch_int b off n c l x w (by omega) (by omega) (fun j hj => ?_) (by rw [ht]; exact hs)).mono fun e w' ⟨he, q, hw⟩ => ⟨?_, ?_⟩
    · rw [hc j hj, List.getD_eq_getElem?_getD, List.getElem?_eq_getElem hj]; rfl
    · rw [he, ht]; rfl
    · rw [hw]; exact bDrewN (Below.refl _ _)
  · obtain rfl : l = [] := List.eq_nil_of_length_eq_zero (by omega)
    obtain rfl : n = 0 := hl
    exact (Tryd.slices_BinarySearch_int_empty A c x w).mono fun e w' ⟨he, hw⟩ => ⟨he, by rw [hw]; exact Below.refl _ _⟩

/-- is place k bad -/
def badAt (l : List Int) (m : Int) (k : Nat) : Bool := decide (l.getD k 0 < 0) || decide (l.getD k 0 > m) || (decide (0 < (k : Int)) && decide (l.getD (k - 1) 0 ≥ l.getD k 0))
def riseF (l : List Int) (m : Int) (k : Nat) : Bool := (List.range' k (l.length - k)).all fun j => !badAt l m j
theorem riseF_step (l : List Int) (m : Int) (k : Nat) (h : k < l.length) : riseF l m k = (!badAt l m k && riseF l m (k + 1)) := by
  unfold riseF
  rw [show l.length - k = (l.length - (k + 1)) + 1 by omega, List.range'_succ, List.all_cons]
theorem riseF_end (l : List Int) (m : Int) (k : Nat) (h : ¬ k < l.length) : riseF l m k = true := by
  unfold riseF
  rw [show l.length - k = 0 by omega]; rfl
def riseB (l : List Int) (m : Int) : Bool := riseF l m 0 && decide ((l.length : Int) ≤ 4096)
theorem getD_get (l : List Int) (k : Nat) (h : k < l.length) : l.getD k 0 = l[k] := by rw [List.getD_eq_getElem?_getD, List.getElem?_eq_getElem h]; rfl
set_option maxHeartbeats 1000000 in
theorem risesW (A : Option Addr) (n c : Nat) (l : List Int) (m : Int) (w : World) (hr : Ri w A n l) (hn : n < 4611686018427387904) :
    Calls Tryd.prog 41 #[.slice A n c, .int .i64 m] w fun e w' => e = .returned (.bool (riseB l m)) ∧ w = w' := by
  obtain rfl := hr.len
  have HR := Lib.hid hr
  clear hr
  go_enter Tryd.func41, Tryd.ntmps41
  go_wp2
  go_loop [5, 6, 9] (fun _ _ i => ∃ k : Nat, k ≤ l.length ∧ i = .int .i64 k ∧ Hid (riseF l m k = riseF l m 0)) (fun _ _ i => l.length - (intOf i).toNat)
  case atStart => exact ⟨0, Nat.zero_le _, rfl, Lib.hid rfl⟩
  case round =>
    obtain ⟨k, hk, rfl, hq⟩ := hrel
    by_cases hlt : k < l.length
    · have hst := Lib.hid (riseF_step l m k hlt)
      obtain ⟨b, off, rfl, hb, hc⟩ := HR.out.cell (by omega)
      have c0 := hc k hlt
      have hd := Lib.hid (getD_get l k hlt)
      by_cases h0 : k = 0
      · subst h0
        have hbad := Lib.hid (show badAt l m 0 = (decide (l[0] < 0) || decide (l[0] > m)) by unfold badAt; rw [hd.out]; simp)
        have c0' : w.cell? ⟨b, off, none⟩ = some (.int .i64 l[0]) := c0
        clear hc c0
        generalize l[0] = x0 at *
        go_wp2
        all_goals first
          | (go_round
             case rel => go_light; exact ⟨1, by omega, by go_num, Lib.hid (by have a := hst.out; have b := hbad.out; have c := hq.out; simp_all)⟩
             case measure => simp [intOf]; omega)
          | (go_ret; go_light; refine ⟨ret_bool ?_, rfl⟩; have a := hst.out; have b := hbad.out; have c := hq.out; unfold riseB; simp_all)
      · have c1 := hc (k - 1) (by omega)
        have hkI : (0 : Int) < k := by omega
        have hk1 : (k : Int) - 1 = ((k - 1 : Nat) : Int) := by omega
        have hbad := Lib.hid (show badAt l m k = (decide (l[k] < 0) || decide (l[k] > m) || decide (l[k - 1] ≥ l[k])) by unfold badAt; rw [hd.out, getD_get l (k - 1) (by omega), decide_eq_true hkI, Bool.true_and])
        clear hc
        generalize l[k - 1] = y at *
        go_wp2
        all_goals first
          | (go_round
             case rel => go_light; exact ⟨k + 1, by omega, by go_num, Lib.hid (by have a := hst.out; have b := hbad.out; have c := hq.out; simp_all)⟩
             case measure => simp [intOf]; omega)
          | (go_ret; go_light; refine ⟨ret_bool ?_, rfl⟩; have a := hst.out; have b := hbad.out; have c := hq.out; unfold riseB; simp_all)
    · have hst := Lib.hid (riseF_end l m k hlt)
      go_wp2
      all_goals (go_ret; go_light; refine ⟨ret_bool ?_, rfl⟩; have a := hst.out; have c := hq.out; unfold riseB; simp_all)
end Go.Proofs.YtpgldnjejnigiaaDoor
