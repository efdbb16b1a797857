/-
  More walks on rows of endorsements: Big, Same, Cut, Blank, May of the reference.
-/
import Derived.Test.YtifconpldnobkaaD
namespace Go.Proofs.Ytifconpldnobkaa
open Go.RowKit

def bigX (x : En) : Bool := decide (100 < (x.frm.size : Int)) || decide (100 < (x.to.size : Int))
def bigFrom (l : List En) (k : Nat) : Bool := (l.drop k).any bigX
def bigB (l : List En) (most : Int) : Bool := decide (most < (l.length : Int)) || bigFrom l 0
theorem bigFrom_step (l : List En) (k : Nat) (h : k < l.length) : bigFrom l k = (bigX l[k] || bigFrom l (k + 1)) := by
  unfold bigFrom; rw [List.drop_eq_getElem_cons h]; rfl
theorem bigFrom_end (l : List En) (k : Nat) (h : ¬ k < l.length) : bigFrom l k = false := by
  unfold bigFrom; rw [List.drop_eq_nil_of_le (by omega)]; rfl

set_option maxHeartbeats 1000000 in
theorem big8 (A : Option Addr) (c : Nat) (l : List En) (most : Int) (w : World) (hr : RowE w w.heap.size A l) :
    Calls Try.prog 8 #[.slice A l.length c, .int .i64 most] w fun e w' => e = .returned (.bool (bigB l most)) ∧ w = w' := by
  have hl := hr.1
  by_cases hm : most < (l.length : Int)
  · go_enter Try.func8, Try.ntmps8
    go_wp2
    all_goals (go_ret; go_light; refine ⟨ret_bool ?_, rfl⟩; simp_all [bigB])
  · go_enter Try.func8, Try.ntmps8
    go_wp2
    go_loop [5] (fun i => ∃ k : Nat, k ≤ l.length ∧ i = .int .i64 k ∧ Hid (bigFrom l k = bigFrom l 0)) (fun i => l.length - (intOf i).toNat)
    case atStart => exact ⟨0, Nat.zero_le _, rfl, Lib.hid rfl⟩
    case round =>
      obtain ⟨k, hk, rfl, hq⟩ := hrel
      by_cases hlt : k < l.length
      · have hn := Lib.hid (bigFrom_step l k hlt)
        obtain ⟨s1, s2, ad, rfl, hbk, c0, c1, c2, c3⟩ := hr.at_ k hlt
        unfold maxLen at s1 s2
        go_wp2
        all_goals first
          | (go_round
             case rel => go_light; exact ⟨k + 1, by omega, by go_num, Lib.hid (by have a := hn.out; have b := hq.out; simp_all [bigX]; try omega)⟩
             case measure => simp [intOf]; omega)
          | (go_ret; go_light; refine ⟨ret_bool ?_, rfl⟩; have a := hn.out; have b := hq.out; simp_all [bigX, bigB]; try omega)
      · have hn := Lib.hid (bigFrom_end l k hlt)
        go_wp2
        all_goals (go_ret; go_light; refine ⟨ret_bool ?_, rfl⟩; have a := hn.out; have b := hq.out; simp_all [bigX, bigB]; try omega)

def sameX (x y : En) : Bool := x.frm.toList == y.frm.toList && (x.to.toList == y.to.toList && (x.kind == y.kind && x.day == y.day))
theorem neqE (x y : En) (w : World) : (binOp .neq 31 (.agg #[.string x.frm, .string x.to, .int .i64 x.kind, .int .i64 x.day]) (.agg #[.string y.frm, .string y.to, .int .i64 y.kind, .int .i64 y.day])).run Try.prog w = .ok (.bool (!sameX x y)) w := by
  have hS : Try.prog.underlying 31 = some (.struct (Try.prog.fieldsOf 31)) := by kernel_rfl
  have hp : Try.prog.stoodInHeld 31 = false := by kernel_rfl
  rw [run_neq_struct, show (10000 : Nat) = 9999 + 1 from rfl, run_equalIn_agg w 9999 31 _ _ hS hp]
  simp [go_sem]
  unfold sameX
  by_cases h1 : x.frm.toList = y.frm.toList <;> by_cases h2 : x.to.toList = y.to.toList <;> by_cases h3 : x.kind = y.kind <;> by_cases h4 : x.day = y.day <;> simp [h1, h2, h3, h4]
def sameFrom (a b : List En) (k : Nat) : Bool := (a.drop k).zip (b.drop k) |>.all fun p => sameX p.1 p.2
def sameB (a b : List En) : Bool := a.length == b.length && sameFrom a b 0
theorem sameFrom_step (a b : List En) (k : Nat) (h : k < a.length) (h' : k < b.length) : sameFrom a b k = (sameX a[k] b[k] && sameFrom a b (k + 1)) := by
  unfold sameFrom; rw [List.drop_eq_getElem_cons h, List.drop_eq_getElem_cons h']; rfl
theorem sameFrom_end (a b : List En) (k : Nat) (h : ¬ k < a.length) : sameFrom a b k = true := by
  unfold sameFrom; rw [List.drop_eq_nil_of_le (by omega)]; rfl

set_option maxHeartbeats 1000000 in
theorem same10 (A A' : Option Addr) (c c' : Nat) (l l' : List En) (w : World) (hr : RowE w w.heap.size A l) (hr' : RowE w w.heap.size A' l') :
    Calls Try.prog 10 #[.slice A l.length c, .slice A' l'.length c'] w fun e w' => e = .returned (.bool (sameB l l')) ∧ Below w.heap.size w w' := by
  have hl := hr.1
  have hl' := hr'.1
  by_cases hm : l.length = l'.length
  · have hm1 : ((l.length : Int) == (l'.length : Int)) = true := by simp; exact_mod_cast hm
    have hm2 : ((l.length : Int) != (l'.length : Int)) = false := by simp; exact_mod_cast hm
    have Hm := Lib.hid hm
    clear hm
    go_enter Try.func10, Try.ntmps10
    go_wp2
    go_loopw [5] (fun i wr => ∃ k : Nat, k ≤ l.length ∧ i = .int .i64 k ∧ Below w.heap.size w wr ∧ Hid (sameFrom l l' k = sameFrom l l' 0)) (fun i _ => l.length - (intOf i).toNat)
    case atStart => exact ⟨0, Nat.zero_le _, rfl, Below.refl _ _, Lib.hid rfl⟩
    case round =>
      obtain ⟨k, hk, rfl, hB0, hq⟩ := hrel
      have hz0 := hB0.size
      have hr1 := hr.next hB0
      have hr1' := hr'.next hB0
      by_cases hlt : k < l.length
      · have hlt' : k < l'.length := by have := Hm.out; omega
        have hn := Lib.hid (sameFrom_step l l' k hlt hlt')
        obtain ⟨s1, s2, ad, rfl, hbk, c0, c1, c2, c3⟩ := hr1.at_ k hlt
        obtain ⟨s1', s2', ad', rfl, hbk', c0', c1', c2', c3'⟩ := hr1'.at_ k hlt'
        have hne := fun w => neqE l[k] l'[k] w
        go_wp2
        go_quiet (fail)
        go_wp2
        all_goals first
          | (go_roundw
             case rel => go_light; exact ⟨k + 1, by omega, by go_num, by (repeat' first | exact Below.refl _ _ | (with_reducible assumption) | (with_reducible refine bAlloc (by first | omega | (simp <;> omega)) ?_) | (with_reducible refine bSet (by first | omega | (simp <;> omega)) ?_) | (with_reducible refine bDrew ?_) | (with_reducible refine bDrewN ?_) | (with_reducible refine bTrans (by with_reducible assumption) (by first | omega | (simp <;> omega)) ?_)), Lib.hid (by have a := hn.out; have b := hq.out; simp_all)⟩
             case measure => simp [intOf]; omega)
          | (go_ret; go_light; refine ⟨ret_bool ?_, by (repeat' first | exact Below.refl _ _ | (with_reducible assumption) | (with_reducible refine bAlloc (by first | omega | (simp <;> omega)) ?_) | (with_reducible refine bSet (by first | omega | (simp <;> omega)) ?_) | (with_reducible refine bDrew ?_) | (with_reducible refine bDrewN ?_) | (with_reducible refine bTrans (by with_reducible assumption) (by first | omega | (simp <;> omega)) ?_))⟩; have a := hn.out; have b := hq.out; simp_all [sameB])
      · have hn := Lib.hid (sameFrom_end l l' k hlt)
        go_wp2
        all_goals (go_ret; go_light; refine ⟨ret_bool ?_, by (repeat' first | exact Below.refl _ _ | (with_reducible assumption) | (with_reducible refine bAlloc (by first | omega | (simp <;> omega)) ?_) | (with_reducible refine bSet (by first | omega | (simp <;> omega)) ?_) | (with_reducible refine bDrew ?_) | (with_reducible refine bDrewN ?_) | (with_reducible refine bTrans (by with_reducible assumption) (by first | omega | (simp <;> omega)) ?_))⟩; have a := hn.out; have b := hq.out; simp_all [sameB]; try omega)
  · go_enter Try.func10, Try.ntmps10
    go_wp2
    all_goals (go_ret; go_light; refine ⟨ret_bool ?_, by (repeat' first | exact Below.refl _ _ | (with_reducible assumption) | (with_reducible refine bAlloc (by first | omega | (simp <;> omega)) ?_) | (with_reducible refine bSet (by first | omega | (simp <;> omega)) ?_) | (with_reducible refine bDrew ?_) | (with_reducible refine bDrewN ?_) | (with_reducible refine bTrans (by with_reducible assumption) (by first | omega | (simp <;> omega)) ?_))⟩; simp_all [sameB]; try omega)
end Go.Proofs.Ytifconpldnobkaa
