/-
  The walks of the functions on a row of endorsements, the reference's.
-/
import Derived.Test.YtifconpldnobkaaC
namespace Go.Proofs.Ytifconpldnobkaa
open Go.RowKit

def cellsE (w : World) (a : Addr) (x : En) : Prop :=
  w.cell? a = some (.string x.frm) ∧ w.cell? ⟨a.block, a.off + 1, none⟩ = some (.string x.to) ∧ w.cell? ⟨a.block, a.off + 2, none⟩ = some (.int .i64 x.kind) ∧ w.cell? ⟨a.block, a.off + 3, none⟩ = some (.int .i64 x.day)
def En.cells (x : En) : List Value := [.string x.frm, .string x.to, .int .i64 x.kind, .int .i64 x.day]
theorem En.len (x : En) : x.cells.length = 4 := rfl
/-- the slice of address A reads as l, below block B -/
def RowE (w : World) (B : Nat) (A : Option Addr) (l : List En) : Prop :=
  l.length ≤ 9223372036854775807 ∧ (∀ i (h : i < l.length), l[i].frm.size ≤ maxLen ∧ l[i].to.size ≤ maxLen) ∧ Rd w B 4 A l.length (l.flatMap En.cells)
theorem RowE.at_ {w : World} {B : Nat} {A : Option Addr} {l : List En} (h : RowE w B A l) (i : Nat) (hi : i < l.length) :
    l[i].frm.size ≤ maxLen ∧ l[i].to.size ≤ maxLen ∧ ∃ ad, A = some ad ∧ (ad.add (i * 4)).block < B ∧ cellsE w (ad.add (i * 4)) l[i] := by
  obtain ⟨_, hs, hr⟩ := h
  obtain ⟨ad, e, hb, hc⟩ := hr.at_ En.len hi
  refine ⟨(hs i hi).1, (hs i hi).2, ad, e, hb, ?_, ?_, ?_, ?_⟩
  · exact hc 0 _ rfl
  · rw [← add_pos _ 1 (by omega)]; exact hc 1 _ rfl
  · rw [← add_pos _ 2 (by omega)]; exact hc 2 _ rfl
  · rw [← add_pos _ 3 (by omega)]; exact hc 3 _ rfl
/-- in a later world -/
theorem RowE.next {w w' : World} {A : Option Addr} {l : List En} (h : RowE w w.heap.size A l) (hb : Below w.heap.size w w') : RowE w' w'.heap.size A l :=
  ⟨h.1, h.2.1, h.2.2.next hb⟩
theorem RowE.take {w : World} {B : Nat} {A : Option Addr} {l : List En} (h : RowE w B A l) (k : Nat) (hk : k ≤ l.length) : RowE w B A (l.take k) := by
  refine ⟨by rw [List.length_take]; have := h.1; omega, fun i hi => ?_, ?_⟩
  · rw [List.length_take] at hi
    rw [List.getElem_take]
    exact h.2.1 i (by omega)
  · rw [flat_take En.cells 4 En.len, List.length_take, Nat.min_eq_left hk]
    exact h.2.2.take hk

set_option maxHeartbeats 1000000 in
theorem wrong20 (first : ByteArray) (A : Option Addr) (c : Nat) (l : List En) (i : Nat) (w : World) (hi : i < l.length) (hr : RowE w w.heap.size A l) :
    Calls Try.prog 20 #[.string first, .slice A l.length c, .int .i64 i] w fun e w' => e = .returned (.int .i64 (wrongR first l i hi)) ∧ Below w.heap.size w w' := by
  have hl := hr.1
  obtain ⟨s1, s2, ad, rfl, hbk, c0, c1, c2, c3⟩ := hr.at_ i hi
  by_cases h0 : i = 0
  · subst h0
    have ea : ad.add (0 * 4) = ad := by simp [Addr.add]
    rw [ea] at hbk c0 c1 c2 c3
    clear hr
    have hx := Lib.hid (show wrongR first l 0 hi = _ by unfold wrongR; rfl)
    go_enter Try.func20, Try.ntmps20
    go_wp2_with (go_at_call 27; refine (right27 l[0] _ s1 s2).mono ?_; rintro e w1 ⟨rfl, hxb⟩; (obtain ⟨hxc, hxf⟩ := bcell hxb; have hxz := hxb.size; (try simp [Nat.succ_le_iff] at hxz); (try have hxy := Nat.lt_of_succ_lt hxz); (try have hxy2 := Nat.lt_of_succ_lt hxy); (try have hxy3 := Nat.lt_of_succ_lt hxy2); (try have hxy4 := Nat.lt_of_succ_lt hxy3); have hxB : Below w.heap.size w w1 := (by (repeat' first | exact Below.refl _ _ | (with_reducible assumption) | (with_reducible refine bAlloc (by first | omega | (simp <;> omega)) ?_) | (with_reducible refine bSet (by first | omega | (simp <;> omega)) ?_) | (with_reducible refine bDrew ?_) | (with_reducible refine bDrewN ?_) | (with_reducible refine bTrans (by with_reducible assumption) (by first | omega | (simp <;> omega)) ?_))); have hxk := below_all hxB; (try have hxl0 : w.heap.size < w1.heap.size := (by omega)); (try have hxl1 : w.heap.size + 1 < w1.heap.size := (by omega)); (try have hxl2 : w.heap.size + 2 < w1.heap.size := (by omega))))
    all_goals
      go_ret
      go_light
      refine ⟨ret_int ?_, ?_⟩
      · have h1 := hx.out; simp_all
      · (repeat' first | exact Below.refl _ _ | (with_reducible assumption) | (with_reducible refine bAlloc (by first | omega | (simp <;> omega)) ?_) | (with_reducible refine bSet (by first | omega | (simp <;> omega)) ?_) | (with_reducible refine bDrew ?_) | (with_reducible refine bDrewN ?_) | (with_reducible refine bTrans (by with_reducible assumption) (by first | omega | (simp <;> omega)) ?_))
  · obtain ⟨_, _, ad', hA, hbk', d0, d1, d2, d3⟩ := hr.at_ (i - 1) (by omega)
    obtain rfl : ad = ad' := by simpa using hA
    clear hA hr
    have hx := Lib.hid (show wrongR first l i hi = _ by unfold wrongR; rfl)
    go_enter Try.func20, Try.ntmps20
    go_wp2_with (go_at_call 27; refine (right27 l[i] _ s1 s2).mono ?_; rintro e w1 ⟨rfl, hxb⟩; (obtain ⟨hxc, hxf⟩ := bcell hxb; have hxz := hxb.size; (try simp [Nat.succ_le_iff] at hxz); (try have hxy := Nat.lt_of_succ_lt hxz); (try have hxy2 := Nat.lt_of_succ_lt hxy); (try have hxy3 := Nat.lt_of_succ_lt hxy2); (try have hxy4 := Nat.lt_of_succ_lt hxy3); have hxB : Below w.heap.size w w1 := (by (repeat' first | exact Below.refl _ _ | (with_reducible assumption) | (with_reducible refine bAlloc (by first | omega | (simp <;> omega)) ?_) | (with_reducible refine bSet (by first | omega | (simp <;> omega)) ?_) | (with_reducible refine bDrew ?_) | (with_reducible refine bDrewN ?_) | (with_reducible refine bTrans (by with_reducible assumption) (by first | omega | (simp <;> omega)) ?_))); have hxk := below_all hxB; (try have hxl0 : w.heap.size < w1.heap.size := (by omega)); (try have hxl1 : w.heap.size + 1 < w1.heap.size := (by omega)); (try have hxl2 : w.heap.size + 2 < w1.heap.size := (by omega))))
    all_goals
      go_ret
      go_light
      refine ⟨ret_int ?_, ?_⟩
      · have h1 := hx.out; simp_all <;> omega
      · (repeat' first | exact Below.refl _ _ | (with_reducible assumption) | (with_reducible refine bAlloc (by first | omega | (simp <;> omega)) ?_) | (with_reducible refine bSet (by first | omega | (simp <;> omega)) ?_) | (with_reducible refine bDrew ?_) | (with_reducible refine bDrewN ?_) | (with_reducible refine bTrans (by with_reducible assumption) (by first | omega | (simp <;> omega)) ?_))

theorem ret_three {a a' : ByteArray} {b b' c c' : Int} (h1 : a = a') (h2 : b = b') (h3 : c = c') : Ending.returned (.tuple #[.string a, .int .i64 b, .int .i64 c]) = .returned (.tuple #[.string a', .int .i64 b', .int .i64 c']) := by rw [h1, h2, h3]
abbrev resV (r : ByteArray × Nat × Int) : Value := .tuple #[.string r.1, .int .i64 r.2.1, .int .i64 r.2.2]
theorem chkR_go (first : ByteArray) (l : List En) (i : Nat) (h : i < l.length) : chkR first l i = if wrongR first l i h = 0 then chkR first l (i + 1) else (nil, i, wrongR first l i h) := by
  rw [chkR, dif_pos h]
theorem chkR_end0 (first : ByteArray) (l : List En) (i : Nat) (h : l.length = 0) : chkR first l i = (first, 0, 0) := by
  rw [chkR, dif_neg (by omega), dif_neg (by omega)]
theorem chkR_end (first : ByteArray) (l : List En) (i : Nat) (h : ¬ i < l.length) (h0 : 0 < l.length) : chkR first l i = (l[l.length - 1].to, l.length, 0) := by
  rw [chkR, dif_neg h, dif_pos h0]

set_option maxHeartbeats 1000000 in
theorem check15 (first : ByteArray) (A : Option Addr) (c : Nat) (l : List En) (w : World) (hs : first.size ≤ maxLen) (hr : RowE w w.heap.size A l) :
    Calls Try.prog 15 #[.string first, .slice A l.length c] w fun e w' => e = .returned (resV (checkR first l)) ∧ Below w.heap.size w w' := by
  have hl := hr.1
  go_enter Try.func15, Try.ntmps15
  go_wp2_with (go_at_call 14; refine (name14 _ _ hs).mono ?_; rintro e w' ⟨rfl, rfl⟩)
  · go_ret3
    go_light
    have h : nameB first = false := by simp_all
    exact ⟨by simp [checkR, h, resV, nil], Below.refl _ _⟩
  · rename (!nameB first) = false => ht
    have h : nameB first = true := by simpa using ht
    have hn := Lib.hid (show checkR first l = chkR first l 0 by simp [checkR, h])
    clear h ht
    go_loopw [7, 8] (fun i _ wr => ∃ k : Nat, k ≤ l.length ∧ i = .int .i64 k ∧ Below w.heap.size w wr ∧ Hid (chkR first l k = chkR first l 0)) (fun i _ _ => l.length - (intOf i).toNat)
    case atStart => exact ⟨0, Nat.zero_le _, rfl, Below.refl _ _, Lib.hid rfl⟩
    case round =>
      obtain ⟨k, hk, rfl, hB0, hq⟩ := hrel
      have hr1 := hr.next hB0
      have hz0 := hB0.size
      by_cases hlt : k < l.length
      · have hc := Lib.hid (chkR_go first l k hlt)
        go_wp2_with (go_at_call 20; refine (wrong20 first A c l k _ hlt hr1).mono ?_; rintro e w1 ⟨rfl, hxb⟩; (obtain ⟨hxc, hxf⟩ := bcell hxb; have hxz := hxb.size; (try simp [Nat.succ_le_iff] at hxz); (try have hxy := Nat.lt_of_succ_lt hxz); (try have hxy2 := Nat.lt_of_succ_lt hxy); (try have hxy3 := Nat.lt_of_succ_lt hxy2); (try have hxy4 := Nat.lt_of_succ_lt hxy3); have hxB : Below w.heap.size w w1 := (by (repeat' first | exact Below.refl _ _ | (with_reducible assumption) | (with_reducible refine bAlloc (by first | omega | (simp <;> omega)) ?_) | (with_reducible refine bSet (by first | omega | (simp <;> omega)) ?_) | (with_reducible refine bDrew ?_) | (with_reducible refine bDrewN ?_) | (with_reducible refine bTrans (by with_reducible assumption) (by first | omega | (simp <;> omega)) ?_))); have hxk := below_all hxB; (try have hxl0 : w.heap.size < w1.heap.size := (by omega)); (try have hxl1 : w.heap.size + 1 < w1.heap.size := (by omega)); (try have hxl2 : w.heap.size + 2 < w1.heap.size := (by omega))))
        all_goals first
          | (go_roundw
             case rel => go_light; exact ⟨k + 1, by omega, by go_num, by (repeat' first | exact Below.refl _ _ | (with_reducible assumption) | (with_reducible refine bAlloc (by first | omega | (simp <;> omega)) ?_) | (with_reducible refine bSet (by first | omega | (simp <;> omega)) ?_) | (with_reducible refine bDrew ?_) | (with_reducible refine bDrewN ?_) | (with_reducible refine bTrans (by with_reducible assumption) (by first | omega | (simp <;> omega)) ?_)), Lib.hid (by have b := hc.out; have c := hq.out; simp_all)⟩
             case measure => simp [intOf]; omega)
          | (go_ret3; go_light; refine ⟨?_, by (repeat' first | exact Below.refl _ _ | (with_reducible assumption) | (with_reducible refine bAlloc (by first | omega | (simp <;> omega)) ?_) | (with_reducible refine bSet (by first | omega | (simp <;> omega)) ?_) | (with_reducible refine bDrew ?_) | (with_reducible refine bDrewN ?_) | (with_reducible refine bTrans (by with_reducible assumption) (by first | omega | (simp <;> omega)) ?_))⟩; have a := hn.out; have b := hc.out; have c := hq.out; simp_all [nil, resV])
      · obtain rfl : k = l.length := by omega
        by_cases h0 : l.length = 0
        · have h0' : ((l.length : Int) == 0) = true := by simp [h0]
          clear hr1 hr
          have hc := Lib.hid (chkR_end0 first l l.length h0)
          have H0 := Lib.hid h0
          clear h0
          go_wp2_with fail
          all_goals (go_ret3; go_light; refine ⟨?_, by (repeat' first | exact Below.refl _ _ | (with_reducible assumption) | (with_reducible refine bAlloc (by first | omega | (simp <;> omega)) ?_) | (with_reducible refine bSet (by first | omega | (simp <;> omega)) ?_) | (with_reducible refine bDrew ?_) | (with_reducible refine bDrewN ?_) | (with_reducible refine bTrans (by with_reducible assumption) (by first | omega | (simp <;> omega)) ?_))⟩; have a := hn.out; have b := hc.out; have c := hq.out; have h0 := H0.out; simp_all [nil, resV])
        · obtain ⟨s1, s2, ad, rfl, hbk, c0, c1, c2, c3⟩ := hr1.at_ (l.length - 1) (by omega)
          have h0' : ((l.length : Int) == 0) = false := by simp; intro h; simp [h] at h0
          have hc := Lib.hid (chkR_end first l l.length hlt (by omega))
          clear hr1 hr
          go_wp2_with fail
          all_goals (go_ret3; go_light; refine ⟨?_, by (repeat' first | exact Below.refl _ _ | (with_reducible assumption) | (with_reducible refine bAlloc (by first | omega | (simp <;> omega)) ?_) | (with_reducible refine bSet (by first | omega | (simp <;> omega)) ?_) | (with_reducible refine bDrew ?_) | (with_reducible refine bDrewN ?_) | (with_reducible refine bTrans (by with_reducible assumption) (by first | omega | (simp <;> omega)) ?_))⟩; have a := hn.out; have b := hc.out; have c := hq.out; simp_all [nil, resV])
end Go.Proofs.Ytifconpldnobkaa
