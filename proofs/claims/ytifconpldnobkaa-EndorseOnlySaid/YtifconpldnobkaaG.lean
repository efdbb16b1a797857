/-
  The walks: follow (a loop by goto), Check, Holder, May.
-/
import Derived.Test.YtifconpldnobkaaF
namespace Go.Proofs.Ytifconpldnobkaa
open Go.RowKit

/-- the world at the label: the result's block, the chain's block -/
def FolW (w wr : World) (ch : Ch) : Prop :=
  Below w.heap.size w wr ∧ w.heap.size + 1 < wr.heap.size ∧
  wr.cell? ⟨w.heap.size, 0, none⟩ = some (.string ⟨#[]⟩) ∧ wr.cell? ⟨w.heap.size, 1, none⟩ = some (.bool false) ∧ wr.cell? ⟨w.heap.size, 2, none⟩ = some (.bool false) ∧ wr.cell? ⟨w.heap.size, 3, none⟩ = some (.int .i64 0) ∧
  wr.cell? ⟨w.heap.size + 1, 0, none⟩ = some (.string ch.holder) ∧ wr.cell? ⟨w.heap.size + 1, 1, none⟩ = some (.bool ch.blank) ∧ wr.cell? ⟨w.heap.size + 1, 2, none⟩ = some (.bool ch.ended) ∧ wr.cell? ⟨w.heap.size + 1, 3, none⟩ = some (.int .i64 ch.day) ∧
  (∀ o, wr.frozen? ⟨w.heap.size, o, none⟩ = false) ∧ (∀ o, wr.frozen? ⟨w.heap.size + 1, o, none⟩ = false)
theorem FolW.next {w wr w1 : World} {ch : Ch} (h : FolW w wr ch) (hb : Below wr.heap.size wr w1) : FolW w w1 ch := by
  obtain ⟨hB0, hz0, z0, z1, z2, z3, c0, c1, c2, c3, f0, f1⟩ := h
  have hs := hB0.size
  have hk : ∀ b o, b < wr.heap.size → w1.cell? ⟨b, o, none⟩ = wr.cell? ⟨b, o, none⟩ := fun b o h => hb.cell (p := ⟨b, o, none⟩) h
  have hf : ∀ b o, b < wr.heap.size → w1.frozen? ⟨b, o, none⟩ = wr.frozen? ⟨b, o, none⟩ := fun b o h => hb.frozen (p := ⟨b, o, none⟩) h
  exact ⟨hB0.trans (hb.mono hs), by have := hb.size; omega, (hk _ _ (by omega)).trans z0, (hk _ _ (by omega)).trans z1, (hk _ _ (by omega)).trans z2, (hk _ _ (by omega)).trans z3, (hk _ _ hz0).trans c0, (hk _ _ hz0).trans c1, (hk _ _ hz0).trans c2, (hk _ _ hz0).trans c3, fun o => (hf _ _ (by omega)).trans (f0 o), fun o => (hf _ _ hz0).trans (f1 o)⟩
theorem FolW.drew {w wr : World} {ch : Ch} (h : FolW w wr ch) : FolW w wr.drew ch := by
  obtain ⟨hB0, h⟩ := h
  exact ⟨hB0.drew, h⟩
theorem FolW.set {w wr : World} {ch : Ch} (h : FolW w wr ch) (y : Ch) : FolW w ((((wr.setCell ⟨w.heap.size + 1, 0, none⟩ (.string y.holder)).setCell ⟨w.heap.size + 1, 1, none⟩ (.bool y.blank)).setCell ⟨w.heap.size + 1, 2, none⟩ (.bool y.ended)).setCell ⟨w.heap.size + 1, 3, none⟩ (.int .i64 y.day)) y := by
  obtain ⟨hB0, hz0, z0, z1, z2, z3, c0, c1, c2, c3, f0, f1⟩ := h
  refine ⟨by (repeat' first | exact Below.refl _ _ | (with_reducible assumption) | (with_reducible refine bAlloc (by first | omega | (simp <;> omega)) ?_) | (with_reducible refine bSet (by first | omega | (simp <;> omega)) ?_) | (with_reducible refine bDrew ?_) | (with_reducible refine bDrewN ?_) | (with_reducible refine bTrans (by with_reducible assumption) (by first | omega | (simp <;> omega)) ?_)), by simpa using hz0, ?_⟩
  simp [go_sem, z0, z1, z2, z3, c0, c1, c2, c3, f0, f1]
def FolJ (first : ByteArray) (A : Option Addr) (c : Nat) (l : List En) (w : World) (a : Act) (wr : World) : Prop :=
  ∃ (k : Nat) (ch : Ch) (u9 u10 u11 u12 u13 u14 u15 u16 u17 u18 u19 u20 u21 u22 u23 u24 u25 u26 u27 u28 u29 u30 u31 u32 u33 u34 u35 u36 u37 u38 u39 : Value), a = { tmps := #[.string first, .slice A l.length c, undef, undef, .pointer (some ⟨w.heap.size, 0, none⟩), .int .i64 0, .int .i64 0, .pointer (some ⟨w.heap.size + 1, 0, none⟩), .int .i64 k, u9, u10, u11, u12, u13, u14, u15, u16, u17, u18, u19, u20, u21, u22, u23, u24, u25, u26, u27, u28, u29, u30, u31, u32, u33, u34, u35, u36, u37, u38, u39], defers := [] } ∧ FolW w wr ch ∧ k ≤ l.length ∧ fol ch k (l.drop k) = follow first l
theorem fol_step (c : Ch) (k : Nat) (l : List En) (h : k < l.length) : fol c k (l.drop k) = if wrongP c l[k] = 0 then fol (onP l[k]) (k + 1) (l.drop (k + 1)) else (noCh, k, wrongP c l[k]) := by
  rw [List.drop_eq_getElem_cons h]; rfl
theorem fol_end (c : Ch) (k : Nat) (l : List En) (h : ¬ k < l.length) : fol c k (l.drop k) = (c, k, 0) := by
  rw [List.drop_eq_nil_of_le (by omega)]; rfl
abbrev folV (r : Ch × Nat × Int) : Value := .tuple #[r.1.v, .int .i64 r.2.1, .int .i64 r.2.2]

set_option maxRecDepth 100000 in
set_option maxHeartbeats 2000000 in
theorem follow18 (first : ByteArray) (A : Option Addr) (c : Nat) (l : List En) (w : World) (hs : first.size ≤ maxLen) (hr : RowE w w.heap.size A l) :
    Calls Try.prog 18 #[.string first, .slice A l.length c] w fun e w' => e = .returned (folV (follow first l)) ∧ Below w.heap.size w w' := by
  have hl := hr.1
  by_cases hn : nameB first = true
  · have hx := Lib.hid (show follow first l = fol ⟨first, false, false, 0⟩ 0 l by simp [follow, hn])
    go_enter Try.func18, Try.ntmps18
    go_wp2_with fail
    refine wp_scope_jumps 0 (FolJ first A c l w) (fun a _ => l.length - (intOf (a.tmps.getD 8 undef)).toNat) rfl ?_ ?_
    · go_wp2_with (go_at_call 19; refine (name19 _ _ hs).mono ?_; rintro e w' ⟨rfl, rfl⟩)
      go_step3
      have hW : FolW w ((w.alloc (.cells #[.string ⟨#[]⟩, .bool false, .bool false, .int .i64 0] 43)).alloc (.cells #[.string first, .bool false, .bool false, .int .i64 0] 43)) ⟨first, false, false, 0⟩ := by
        refine ⟨by (repeat' first | exact Below.refl _ _ | (with_reducible assumption) | (with_reducible refine bAlloc (by first | omega | (simp <;> omega)) ?_) | (with_reducible refine bSet (by first | omega | (simp <;> omega)) ?_) | (with_reducible refine bDrew ?_) | (with_reducible refine bDrewN ?_) | (with_reducible refine bTrans (by with_reducible assumption) (by first | omega | (simp <;> omega)) ?_)), by simp, ?_⟩
        simp [go_sem]
      have hq : Hid (fol ⟨first, false, false, 0⟩ 0 (l.drop 0) = follow first l) := Lib.hid (by rw [hx.out]; rfl)
      generalize ((w.alloc (.cells #[.string ⟨#[]⟩, .bool false, .bool false, .int .i64 0] 43)).alloc (.cells #[.string first, .bool false, .bool false, .int .i64 0] 43)) = wr at hW ⊢
      by_cases hlt : 0 < l.length
      · have ht : ((0 : Int) == (l.length : Int)) = false := by simp; omega
        have hn1 := Lib.hid (fol_step ⟨first, false, false, 0⟩ 0 l hlt)
        have hr1 := hr.next hW.1
        obtain ⟨s1, s2, ad, rfl, hbk, e0, e1, e2, e3⟩ := hr.at_ 0 hlt
        obtain ⟨_, _, ad', ea, hbk', d0, d1, d2, d3⟩ := hr1.at_ 0 hlt
        obtain rfl : ad = ad' := by simpa using ea
        clear ea hr hr1
        have ez : ad.add (0 * 4) = ad := by simp [Addr.add]
        rw [ez] at hbk hbk' e0 e1 e2 e3 d0 d1 d2 d3
        have hW2 := hW.drew
        obtain ⟨hB0, hz0, z0, z1, z2, z3, c0, c1, c2, c3, f0, f1⟩ := hW
        go_wp2_with fail
        go_still_tail 5, (by kernel_rfl)
        change wpList _ _ _ _ _ wr.drew
        clear hB0 hz0 z0 z1 z2 z3 c0 c1 c2 c3 f0 f1 hbk' d0 d1 d2 d3
        generalize wr.drew = w2 at hW2 ⊢
        have hW3 := hW2
        obtain ⟨hB0, hz0, z0, z1, z2, z3, c0, c1, c2, c3, f0, f1⟩ := hW2
        have hzd := Nat.lt_of_succ_lt hz0
        go_wp2_with (first | ((go_at_call 21; refine (wrong21 ⟨first, false, false, 0⟩ l[0] _ s1 s2).mono ?_; rintro e w1 ⟨rfl, hxb⟩; (obtain ⟨hxc, hxf⟩ := bcell hxb; have hxz := hxb.size; (try simp [Nat.succ_le_iff] at hxz); (try have hxy := Nat.lt_of_succ_lt hxz); (try have hxy2 := Nat.lt_of_succ_lt hxy); (try have hxy3 := Nat.lt_of_succ_lt hxy2); (try have hxy4 := Nat.lt_of_succ_lt hxy3); have hxB : Below w.heap.size w w1 := (by (repeat' first | exact Below.refl _ _ | (with_reducible assumption) | (with_reducible refine bAlloc (by first | omega | (simp <;> omega)) ?_) | (with_reducible refine bSet (by first | omega | (simp <;> omega)) ?_) | (with_reducible refine bDrew ?_) | (with_reducible refine bDrewN ?_) | (with_reducible refine bTrans (by with_reducible assumption) (by first | omega | (simp <;> omega)) ?_))); have hxk := below_all hxB; (try have hxl0 : w.heap.size < w1.heap.size := (by omega)); (try have hxl1 : w.heap.size + 1 < w1.heap.size := (by omega)); (try have hxl2 : w.heap.size + 2 < w1.heap.size := (by omega)))); have hxW := FolW.next hW3 hxb) | ((go_at_call 22; refine (on22 l[0] _).mono ?_; rintro e w1 ⟨rfl, hxb⟩; (obtain ⟨hxc, hxf⟩ := bcell hxb; have hxz := hxb.size; (try simp [Nat.succ_le_iff] at hxz); (try have hxy := Nat.lt_of_succ_lt hxz); (try have hxy2 := Nat.lt_of_succ_lt hxy); (try have hxy3 := Nat.lt_of_succ_lt hxy2); (try have hxy4 := Nat.lt_of_succ_lt hxy3); have hxB : Below w.heap.size w w1 := (by (repeat' first | exact Below.refl _ _ | (with_reducible assumption) | (with_reducible refine bAlloc (by first | omega | (simp <;> omega)) ?_) | (with_reducible refine bSet (by first | omega | (simp <;> omega)) ?_) | (with_reducible refine bDrew ?_) | (with_reducible refine bDrewN ?_) | (with_reducible refine bTrans (by with_reducible assumption) (by first | omega | (simp <;> omega)) ?_))); have hxk := below_all hxB; (try have hxl0 : w.heap.size < w1.heap.size := (by omega)); (try have hxl1 : w.heap.size + 1 < w1.heap.size := (by omega)); (try have hxl2 : w.heap.size + 2 < w1.heap.size := (by omega)))); have hxW2 := FolW.next hxW hxb))
        · go_light
          rename (wrongP ⟨first, false, false, 0⟩ l[0] != 0) = true => hwp
          obtain ⟨_, _, y0, y1, y2, y3, _⟩ := hxW
          (simp only [Exit.jump]; (try go_big_open); (try rw [Exit.noGoto_ret]); (try go_big_open); refine bodyPost_ret (v := folV (noCh, 0, wrongP ⟨first, false, false, 0⟩ l[0])) (by simp [results, Try.results18, go_sem, noCh, nil, y0, y1, y2, y3]) rfl ⟨by have a := hn1.out; have b := hq.out; rw [if_neg (by simpa using hwp)] at a; rw [← b, a], by (repeat' first | exact Below.refl _ _ | (with_reducible assumption) | (with_reducible refine bAlloc (by first | omega | (simp <;> omega)) ?_) | (with_reducible refine bSet (by first | omega | (simp <;> omega)) ?_) | (with_reducible refine bDrew ?_) | (with_reducible refine bDrewN ?_) | (with_reducible refine bTrans (by with_reducible assumption) (by first | omega | (simp <;> omega)) ?_))⟩)
        · go_step3
          go_light
          rename (wrongP ⟨first, false, false, 0⟩ l[0] != 0) = false => hwp
          refine ⟨rfl, ⟨0 + 1, onP l[0], _, _, _, _, _, _, _, _, _, _, _, _, _, _, _, _, _, _, _, _, _, _, _, _, _, _, _, _, _, _, _, rfl, hxW2.set _, by omega, (by have a := hn1.out; have b := hq.out; rw [if_pos (by simpa using hwp)] at a; rw [← b, a])⟩⟩
      · obtain KL : l.length = 0 := by omega
        have hn1 := Lib.hid (fol_end ⟨first, false, false, 0⟩ 0 l hlt)
        obtain ⟨hB0, hz0, z0, z1, z2, z3, c0, c1, c2, c3, f0, f1⟩ := hW
        have hzd := Nat.lt_of_succ_lt hz0
        have ht : ((0 : Int) == (l.length : Int)) = true := by simp [KL]
        have HL := Lib.hid KL
        clear KL
        go_wp2_with fail
        go_light
        (simp only [Exit.jump]; (try go_big_open); (try rw [Exit.noGoto_ret]); (try go_big_open); refine bodyPost_ret (v := folV (⟨first, false, false, 0⟩, 0, 0)) (by simp [results, Try.results18, go_sem, noCh, nil, z0, z1, z2, z3]) rfl ⟨by have a := hn1.out; have b := hq.out; rw [← b, a], by (repeat' first | exact Below.refl _ _ | (with_reducible assumption) | (with_reducible refine bAlloc (by first | omega | (simp <;> omega)) ?_) | (with_reducible refine bSet (by first | omega | (simp <;> omega)) ?_) | (with_reducible refine bDrew ?_) | (with_reducible refine bDrewN ?_) | (with_reducible refine bTrans (by with_reducible assumption) (by first | omega | (simp <;> omega)) ?_))⟩)
    · rintro a wr ⟨k, ch, u9, u10, u11, u12, u13, u14, u15, u16, u17, u18, u19, u20, u21, u22, u23, u24, u25, u26, u27, u28, u29, u30, u31, u32, u33, u34, u35, u36, u37, u38, u39, rfl, hW, hk, hq⟩
      have hq := Lib.hid hq
      by_cases hlt : k < l.length
      · have ht : ((k : Int) == (l.length : Int)) = false := by simp; omega
        have hn1 := Lib.hid (fol_step ch k l hlt)
        have hr1 := hr.next hW.1
        obtain ⟨s1, s2, ad, rfl, hbk, e0, e1, e2, e3⟩ := hr.at_ k hlt
        obtain ⟨_, _, ad', ea, hbk', d0, d1, d2, d3⟩ := hr1.at_ k hlt
        obtain rfl : ad = ad' := by simpa using ea
        clear ea hr hr1
        have hW2 := hW.drew
        obtain ⟨hB0, hz0, z0, z1, z2, z3, c0, c1, c2, c3, f0, f1⟩ := hW
        go_wp2_with fail
        go_still_tail 5, (by kernel_rfl)
        change wpList _ _ _ _ _ wr.drew
        clear hB0 hz0 z0 z1 z2 z3 c0 c1 c2 c3 f0 f1 hbk' d0 d1 d2 d3
        generalize wr.drew = w2 at hW2 ⊢
        have hW3 := hW2
        obtain ⟨hB0, hz0, z0, z1, z2, z3, c0, c1, c2, c3, f0, f1⟩ := hW2
        have hzd := Nat.lt_of_succ_lt hz0
        go_wp2_with (first | ((go_at_call 21; refine (wrong21 ch l[k] _ s1 s2).mono ?_; rintro e w1 ⟨rfl, hxb⟩; (obtain ⟨hxc, hxf⟩ := bcell hxb; have hxz := hxb.size; (try simp [Nat.succ_le_iff] at hxz); (try have hxy := Nat.lt_of_succ_lt hxz); (try have hxy2 := Nat.lt_of_succ_lt hxy); (try have hxy3 := Nat.lt_of_succ_lt hxy2); (try have hxy4 := Nat.lt_of_succ_lt hxy3); have hxB : Below w.heap.size w w1 := (by (repeat' first | exact Below.refl _ _ | (with_reducible assumption) | (with_reducible refine bAlloc (by first | omega | (simp <;> omega)) ?_) | (with_reducible refine bSet (by first | omega | (simp <;> omega)) ?_) | (with_reducible refine bDrew ?_) | (with_reducible refine bDrewN ?_) | (with_reducible refine bTrans (by with_reducible assumption) (by first | omega | (simp <;> omega)) ?_))); have hxk := below_all hxB; (try have hxl0 : w.heap.size < w1.heap.size := (by omega)); (try have hxl1 : w.heap.size + 1 < w1.heap.size := (by omega)); (try have hxl2 : w.heap.size + 2 < w1.heap.size := (by omega)))); have hxW := FolW.next hW3 hxb) | ((go_at_call 22; refine (on22 l[k] _).mono ?_; rintro e w1 ⟨rfl, hxb⟩; (obtain ⟨hxc, hxf⟩ := bcell hxb; have hxz := hxb.size; (try simp [Nat.succ_le_iff] at hxz); (try have hxy := Nat.lt_of_succ_lt hxz); (try have hxy2 := Nat.lt_of_succ_lt hxy); (try have hxy3 := Nat.lt_of_succ_lt hxy2); (try have hxy4 := Nat.lt_of_succ_lt hxy3); have hxB : Below w.heap.size w w1 := (by (repeat' first | exact Below.refl _ _ | (with_reducible assumption) | (with_reducible refine bAlloc (by first | omega | (simp <;> omega)) ?_) | (with_reducible refine bSet (by first | omega | (simp <;> omega)) ?_) | (with_reducible refine bDrew ?_) | (with_reducible refine bDrewN ?_) | (with_reducible refine bTrans (by with_reducible assumption) (by first | omega | (simp <;> omega)) ?_))); have hxk := below_all hxB; (try have hxl0 : w.heap.size < w1.heap.size := (by omega)); (try have hxl1 : w.heap.size + 1 < w1.heap.size := (by omega)); (try have hxl2 : w.heap.size + 2 < w1.heap.size := (by omega)))); have hxW2 := FolW.next hxW hxb))
        · go_light
          rename (wrongP ch l[k] != 0) = true => hwp
          obtain ⟨_, _, y0, y1, y2, y3, _⟩ := hxW
          (simp only [Exit.jump]; (try go_big_open); (try rw [Exit.noGoto_ret]); (try go_big_open); refine bodyPost_ret (v := folV (noCh, k, wrongP ch l[k])) (by simp [results, Try.results18, go_sem, noCh, nil, y0, y1, y2, y3]) rfl ⟨by have a := hn1.out; have b := hq.out; rw [if_neg (by simpa using hwp)] at a; rw [← b, a], by (repeat' first | exact Below.refl _ _ | (with_reducible assumption) | (with_reducible refine bAlloc (by first | omega | (simp <;> omega)) ?_) | (with_reducible refine bSet (by first | omega | (simp <;> omega)) ?_) | (with_reducible refine bDrew ?_) | (with_reducible refine bDrewN ?_) | (with_reducible refine bTrans (by with_reducible assumption) (by first | omega | (simp <;> omega)) ?_))⟩)
        · go_step3
          go_light
          rename (wrongP ch l[k] != 0) = false => hwp
          refine ⟨rfl, ⟨k + 1, onP l[k], _, _, _, _, _, _, _, _, _, _, _, _, _, _, _, _, _, _, _, _, _, _, _, _, _, _, _, _, _, _, _, rfl, hxW2.set _, by omega, (by have a := hn1.out; have b := hq.out; rw [if_pos (by simpa using hwp)] at a; rw [← b, a])⟩, by simp [intOf]; omega⟩
      · obtain KL : l.length = k := by omega
        have hn1 := Lib.hid (fol_end ch k l hlt)
        obtain ⟨hB0, hz0, z0, z1, z2, z3, c0, c1, c2, c3, f0, f1⟩ := hW
        have hzd := Nat.lt_of_succ_lt hz0
        have ht : ((k : Int) == (l.length : Int)) = true := by simp [KL]
        have HL := Lib.hid KL
        clear KL
        go_wp2_with fail
        go_light
        (simp only [Exit.jump]; (try go_big_open); (try rw [Exit.noGoto_ret]); (try go_big_open); refine bodyPost_ret (v := folV (ch, k, 0)) (by simp [results, Try.results18, go_sem, noCh, nil, z0, z1, z2, z3]) rfl ⟨by have a := hn1.out; have b := hq.out; rw [← b, a], by (repeat' first | exact Below.refl _ _ | (with_reducible assumption) | (with_reducible refine bAlloc (by first | omega | (simp <;> omega)) ?_) | (with_reducible refine bSet (by first | omega | (simp <;> omega)) ?_) | (with_reducible refine bDrew ?_) | (with_reducible refine bDrewN ?_) | (with_reducible refine bTrans (by with_reducible assumption) (by first | omega | (simp <;> omega)) ?_))⟩)
  · have hn : nameB first = false := by simpa using hn
    have hx := Lib.hid (show follow first l = (noCh, 0, 1) by simp [follow, hn])
    go_enter Try.func18, Try.ntmps18
    go_wp2_with (go_at_call 19; refine (name19 _ _ hs).mono ?_; rintro e w' ⟨rfl, rfl⟩)
    go_step3
    go_wp2_with (go_at_call 19; refine (name19 _ _ hs).mono ?_; rintro e w' ⟨rfl, rfl⟩)
    go_light
    (try go_big_open)
    (try rw [Exit.noGoto_ret])
    (try go_big_open)
    refine bodyPost_ret (v := folV (noCh, 0, 1)) (by simp [results, Try.results18, go_sem, noCh, nil]) rfl ⟨by rw [hx.out], by (repeat' first | exact Below.refl _ _ | (with_reducible assumption) | (with_reducible refine bAlloc (by first | omega | (simp <;> omega)) ?_) | (with_reducible refine bSet (by first | omega | (simp <;> omega)) ?_) | (with_reducible refine bDrew ?_) | (with_reducible refine bDrewN ?_) | (with_reducible refine bTrans (by with_reducible assumption) (by first | omega | (simp <;> omega)) ?_))⟩
end Go.Proofs.Ytifconpldnobkaa
