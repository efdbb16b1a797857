/-
  Boxes carried along a walk: what they hold stays.
-/
import Derived.Test.YtgnmjopifdekiaaDoorBase
namespace Go.Proofs.YtgnmjopifdekiaaDoor
set_option linter.unusedVariables false
set_option linter.unusedSimpArgs false
open Go.RowKit

theorem size_drewN' (w : World) (n : Nat) : (w.drewN n).heap.size = w.heap.size := rfl
/-- the cells of block b from place k on read as these -/
def hdCells (W : World) (b : Nat) : Nat → List Value → Prop
  | _, [] => True
  | k, v :: vs => (W.cell? ⟨b, k, none⟩ = some v ∧ W.frozen? ⟨b, k, none⟩ = false) ∧ hdCells W b (k + 1) vs
/-- each listed box (its block, its values) reads so -/
def hdAll (W : World) : List (Nat × List Value) → Prop
  | [] => True
  | e :: L => (e.1 < W.heap.size ∧ hdCells W e.1 0 e.2) ∧ hdAll W L
theorem hdCells_keep {W W' : World} {b : Nat} (hb : Below W.heap.size W W') (hlt : b < W.heap.size) : ∀ (vs : List Value) (k : Nat), hdCells W b k vs → hdCells W' b k vs
  | [], _, _ => trivial
  | _ :: vs, k, h => ⟨⟨(hb.cell (p := ⟨b, k, none⟩) hlt).trans h.1.1, (hb.frozen (p := ⟨b, k, none⟩) hlt).trans h.1.2⟩, hdCells_keep hb hlt vs (k + 1) h.2⟩
theorem hdAll_keep {W W' : World} (hb : Below W.heap.size W W') : ∀ L : List (Nat × List Value), hdAll W L → hdAll W' L
  | [], _ => trivial
  | e :: L, ⟨⟨h1, h2⟩, h4⟩ => ⟨⟨Nat.lt_of_lt_of_le h1 hb.size, hdCells_keep hb h1 _ _ h2⟩, hdAll_keep hb L h4⟩
theorem hdCells_new (W : World) (t : TypeId) : ∀ (vs us : List Value), hdCells (W.alloc (.cells (us ++ vs).toArray t)) W.heap.size us.length vs
  | [], _ => trivial
  | v :: vs, us => by
    refine ⟨⟨?_, by simp [go_sem]⟩, ?_⟩
    · rw [World.cell?_alloc_new]
      simp
    · have := hdCells_new W t vs (us ++ [v])
      simpa using this
/-- the listed boxes lie below b -/
def hdAbove (b : Nat) : List (Nat × List Value) → Prop
  | [] => True
  | e :: L => e.1 < b ∧ hdAbove b L
/-- the later one's block lies above -/
def hdSorted : List (Nat × List Value) → Prop
  | [] => True
  | e :: L => hdAbove e.1 L ∧ hdSorted L
theorem hdAbove_of {W : World} : ∀ L : List (Nat × List Value), hdAll W L → hdAbove W.heap.size L
  | [], _ => trivial
  | _ :: L, ⟨h, h4⟩ => ⟨h.1, hdAbove_of L h4⟩
/-- the world W, come out of w -/
structure Hd (w W : World) (L : List (Nat × List Value)) : Prop where
  hB : Below w.heap.size w W
  all : hdAll W L
  so : hdSorted L
theorem Hd.nil {w : World} : Hd w w [] := ⟨Below.refl _ _, trivial, trivial⟩
theorem Hd.next {w W W' : World} {L : List (Nat × List Value)} (h : Hd w W L) (hb : Below W.heap.size W W') : Hd w W' L :=
  ⟨h.hB.trans (hb.mono h.hB.size), hdAll_keep hb L h.all, h.so⟩
theorem Hd.skip {w W : World} {L : List (Nat × List Value)} {o : Obj} (h : Hd w W L) : Hd w (W.alloc o) L := h.next (by (repeat' first | exact Below.refl _ _ | (with_reducible assumption) | (with_reducible refine bAlloc (by first | omega | (simp <;> omega)) ?_) | (with_reducible refine bSet (by first | omega | (simp <;> omega)) ?_) | (with_reducible refine bDrew ?_) | (with_reducible refine bDrewN ?_) | (with_reducible refine bTrans (by with_reducible assumption) (by first | omega | (simp <;> omega)) ?_)))
theorem Hd.box {w W : World} {L : List (Nat × List Value)} {vs : List Value} {t : TypeId} (h : Hd w W L) : Hd w (W.alloc (.cells vs.toArray t)) ((W.heap.size, vs) :: L) :=
  ⟨(h.skip).hB, ⟨⟨by simp, hdCells_new W t vs []⟩, (h.skip).all⟩, ⟨hdAbove_of L h.all, h.so⟩⟩
theorem Hd.drew {w W : World} {L : List (Nat × List Value)} (h : Hd w W L) : Hd w W.drew L := h.next (by (repeat' first | exact Below.refl _ _ | (with_reducible assumption) | (with_reducible refine bAlloc (by first | omega | (simp <;> omega)) ?_) | (with_reducible refine bSet (by first | omega | (simp <;> omega)) ?_) | (with_reducible refine bDrew ?_) | (with_reducible refine bDrewN ?_) | (with_reducible refine bTrans (by with_reducible assumption) (by first | omega | (simp <;> omega)) ?_)))
theorem Hd.drewN {w W : World} {L : List (Nat × List Value)} (h : Hd w W L) (k : Nat) : Hd w (W.drewN k) L := h.next (bDrewN (Below.refl _ _))
/-- what a store into a listed box does to the list -/
def hdPut (b k : Nat) (v : Value) : List (Nat × List Value) → List (Nat × List Value)
  | [] => []
  | e :: L => (e.1, if e.1 = b then e.2.set k v else e.2) :: hdPut b k v L
theorem hdPut_above (b k : Nat) (v : Value) (c : Nat) : ∀ L : List (Nat × List Value), hdAbove c L → hdAbove c (hdPut b k v L)
  | [], _ => trivial
  | _ :: L, ⟨h, h4⟩ => ⟨h, hdPut_above b k v c L h4⟩
theorem hdPut_sorted (b k : Nat) (v : Value) : ∀ L : List (Nat × List Value), hdSorted L → hdSorted (hdPut b k v L)
  | [], _ => trivial
  | e :: L, ⟨h, h4⟩ => ⟨hdPut_above b k v e.1 L h, hdPut_sorted b k v L h4⟩
theorem hdCells_set {W : World} {b c k : Nat} {v : Value} : ∀ (vs : List Value) (j : Nat), j ≤ k → hdCells W c j vs → hdCells (W.setCell ⟨b, k, none⟩ v) c j (if c = b then vs.set (k - j) v else vs)
  | [], j, _, _ => by split <;> exact trivial
  | u :: vs, j, hj, ⟨⟨h1, h2⟩, h3⟩ => by
    by_cases hc : c = b
    · subst hc
      rw [if_pos rfl]
      by_cases e : k = j
      · subst e
        rw [Nat.sub_self, List.set_cons_zero]
        refine ⟨⟨by simp [go_sem, h1], by simp [go_sem, h2]⟩, ?_⟩
        -- the cells behind it
        have : ∀ (vs : List Value) (i : Nat), k < i → hdCells W c i vs → hdCells (W.setCell ⟨c, k, none⟩ v) c i vs := by
          intro vs
          induction vs with
          | nil => intro i _ _; exact trivial
          | cons x xs ih =>
            intro i hi ⟨⟨a1, a2⟩, a3⟩
            refine ⟨⟨?_, by simp [go_sem, a2]⟩, ih (i + 1) (by omega) a3⟩
            rw [World.cell?_setCell_other _ _ _ _ (by intro h; injection h with h _; omega)]
            exact a1
        exact this vs (k + 1) (by omega) h3
      · obtain ⟨m, hm⟩ : ∃ m, k - j = m + 1 := ⟨k - j - 1, by omega⟩
        rw [hm, List.set_cons_succ]
        refine ⟨⟨?_, by simp [go_sem, h2]⟩, ?_⟩
        · rw [World.cell?_setCell_other _ _ _ _ (by intro h; injection h with h _; omega)]
          exact h1
        · have := hdCells_set (b := c) (k := k) (v := v) vs (j + 1) (by omega) h3
          rw [if_pos rfl, show k - (j + 1) = m by omega] at this
          exact this
    · rw [if_neg hc]
      refine ⟨⟨?_, by simp [go_sem, h2]⟩, ?_⟩
      · rw [World.cell?_setCell_other _ _ _ _ (by intro h; injection h with h _; exact hc h.symm)]
        exact h1
      · have : ∀ (vs : List Value) (i : Nat), hdCells W c i vs → hdCells (W.setCell ⟨b, k, none⟩ v) c i vs := by
          intro vs
          induction vs with
          | nil => intro i _; exact trivial
          | cons x xs ih =>
            intro i ⟨⟨a1, a2⟩, a3⟩
            refine ⟨⟨?_, by simp [go_sem, a2]⟩, ih (i + 1) a3⟩
            rw [World.cell?_setCell_other _ _ _ _ (by intro h; injection h with h _; exact hc h.symm)]
            exact a1
        exact this vs (j + 1) h3
theorem hdAll_set {W : World} {b k : Nat} {v : Value} : ∀ L : List (Nat × List Value), hdAll W L → hdAll (W.setCell ⟨b, k, none⟩ v) (hdPut b k v L)
  | [], _ => trivial
  | e :: L, ⟨⟨h1, h2⟩, h4⟩ => by
    refine ⟨?_, hdAll_set L h4⟩
    have := hdCells_set (b := b) (v := v) e.2 0 (Nat.zero_le k) h2
    exact ⟨by simpa using h1, by simpa using this⟩
/-- a store into a block of the call's own -/
theorem Hd.set {w W : World} {L : List (Nat × List Value)} {b k : Nat} {v : Value} (hb : w.heap.size ≤ b) (h : Hd w W L) : Hd w (W.setCell ⟨b, k, none⟩ v) (hdPut b k v L) :=
  ⟨h.hB.setCell hb v, hdAll_set L h.all, hdPut_sorted b k v L h.so⟩
theorem Hd.cast {w W : World} {L L' : List (Nat × List Value)} (h : Hd w W L) (e : L = L') : Hd w W L' := e ▸ h
end Go.Proofs.YtgnmjopifdekiaaDoor
