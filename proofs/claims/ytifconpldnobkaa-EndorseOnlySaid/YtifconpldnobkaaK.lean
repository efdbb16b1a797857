/-
  How a row of endorsements that came in is opened.
-/
import Derived.Test.YtifconpldnobkaaFrame
import Derived.Test.YtifconpldnobkaaI
namespace Go.Proofs.Ytifconpldnobkaa
open Go.ChangeShapes Go.WideShapes Go.ChangeAt Go.RowKit Go.Deep

theorem own_ : ownKnob Try.prog.godebug = none := by kernel_rfl
theorem laidOut_ : laidOutB Try.prog = true := by kernel_rfl

theorem open_row {H : Type} {enc : TypeId × Value → H} {W : World} {base b0 : Nat} {spare : Nat → Bool} {held : Bool} {v : Value} {d : DataW H} {ps : List MemPlace} {r : Reach}
    (hv : Value.okWide Try.prog W r b0 22 v) (h : DataW.Trod enc Try.prog W base spare held 22 v d ps) :
    ∃ (A : Option Addr) (l : List En) (c : Nat), v = .slice A l.length c ∧ RowE W W.heap.size A l ∧ (A = none → l.length = 0 ∧ c = 0) ∧ l.length ≤ c := by
  rcases open_cells Try.underlying22 Try.underlying31 (by kernel_rfl) (by kernel_rfl) hv h with rfl | ⟨a, len, cap, rfl, hlc, hcm, hi⟩
  · exact ⟨none, [], 0, rfl, ⟨by simp, fun i h => absurd h (by simp), by simp, fun h => absurd h (by simp)⟩, by simp, by simp⟩
  · obtain ⟨l, hl, hq⟩ := choose_list (α := En) (Q := fun i x => (x.frm.size ≤ maxLen ∧ x.to.size ≤ maxLen) ∧ ∀ j u, x.cells[j]? = some u → W.cell? (a.add (i * 4 + j)) = some u) len (fun i hil => by
      obtain ⟨u0, y0, n0, c0, t0⟩ := hi i hil 0 _ rfl
      obtain ⟨u1, y1, n1, c1, t1⟩ := hi i hil 1 _ rfl
      obtain ⟨u2, y2, n2, c2, t2⟩ := hi i hil 2 _ rfl
      obtain ⟨u3, y3, n3, c3, t3⟩ := hi i hil 3 _ rfl
      obtain ⟨s0, e0, -, z0⟩ := DataW.trod_string Try.underlying9 t0
      obtain ⟨s1, e1, -, z1⟩ := DataW.trod_string Try.underlying9 t1
      obtain ⟨k2, e2, -, -⟩ := DataW.trod_int Try.underlying3 t2
      obtain ⟨k3, e3, -, -⟩ := DataW.trod_int Try.underlying3 t3
      simp only [List.cons.injEq, and_true] at e0 e1 e2 e3
      subst e0 e1 e2 e3
      refine ⟨⟨s0, s1, k2, k3⟩, ⟨z0, z1⟩, fun j u hu => ?_⟩
      match j, hu with
      | 0, hu => obtain rfl := Option.some.inj hu; exact c0
      | 1, hu => obtain rfl := Option.some.inj hu; exact c1
      | 2, hu => obtain rfl := Option.some.inj hu; exact c2
      | 3, hu => obtain rfl := Option.some.inj hu; exact c3)
    subst hl
    refine ⟨some a, l, cap, rfl, ⟨by unfold maxLen at hcm; omega, fun i hi' => (hq i hi').1, Rd.mk (by omega) En.len (fun h0 => ?_) (fun i hi' => (hq i hi').2)⟩, ⟨fun h => (by cases h), hlc⟩⟩
    exact cell_lt ((hq 0 h0).2 0 _ rfl)
end Go.Proofs.Ytifconpldnobkaa
