/-
  An element put into a slice at a place: append(append(append([]T{}, l[:k]...), x), l[k:]...), as one region that draws its order.
-/
import Derived.Test.YtjohlbpahaklkaaDoorBase
namespace Go.Proofs.YtjohlbpahaklkaaDoor
set_option linter.unusedVariables false
set_option linter.unusedSimpArgs false
open Go.RowKit

/-- the three worlds in which the first append may run, and what stands ready there -/
structure Ins (P : Program) (w : World) (E size : Nat) (A : Option Addr) (n k c : Nat) (xs XC : List Value) : Prop where
  hk : k ≤ n
  hc : n ≤ c
  hr : Rd w w.heap.size size A n xs
  hx : XC.length = size
section
variable {P : Program} {w W : World} {E size n k c : Nat} {A : Option Addr} {xs XC : List Value}
theorem Ins.front (h : Ins P w E size A n k c xs XC) (hb : Below w.heap.size w W) : Rd W W.heap.size size A k (xs.take (k * size)) := (h.hr.take h.hk).next hb
theorem Ins.back (h : Ins P w E size A n k c xs XC) (hb : Below w.heap.size w W) : Rd W W.heap.size size (if c = k then A else A.map (·.add (k * size))) (n - k) (xs.drop (k * size)) := (h.hr.drop h.hk h.hc).next hb
end
theorem own_empty (w : World) (E size : Nat) : (w.alloc (.cells #[] E)).drew.ownsRow w.heap.size E size (.slice (some ⟨w.heap.size, 0, none⟩) 0 0) 0 [] := (World.ownsRow_lit w #[] 0 (Nat.le_refl _) (by decide) (by simp)).drew
theorem own_emptyB (w : World) (E size : Nat) (o : Obj) : ((w.alloc (.cells #[] E)).alloc o).drew.ownsRow w.heap.size E size (.slice (some ⟨w.heap.size, 0, none⟩) 0 0) 0 [] := ((World.ownsRow_lit w #[] 0 (Nat.le_refl _) (by decide) (by simp)).alloc o).drew
theorem own_emptyC (w : World) (E size : Nat) (o : Obj) : ((w.alloc o).alloc (.cells #[] E)).drew.ownsRow w.heap.size E size (.slice (some ⟨w.heap.size + 1, 0, none⟩) 0 0) 0 [] := by
  have h := (World.ownsRow_lit (base := w.heap.size) (e := E) (size := size) (w.alloc o) #[] 0 (by simp) (by decide) (by simp)).drew
  simpa using h
theorem new_B (w : World) (E size : Nat) (XC : List Value) (hx : XC.length = size) : Rd ((w.alloc (.cells #[] E)).alloc (.cells XC.toArray E)).drew ((w.alloc (.cells #[] E)).alloc (.cells XC.toArray E)).drew.heap.size size (some ⟨w.heap.size + 1, 0, none⟩) 1 XC :=
  (Rd.lit (w.alloc (.cells #[] E)) XC E (w.heap.size + 1) 1 size (by simp) (by omega)).drew
theorem new_C (w : World) (E size : Nat) (XC : List Value) (hx : XC.length = size) : Rd ((w.alloc (.cells XC.toArray E)).alloc (.cells #[] E)).drew ((w.alloc (.cells XC.toArray E)).alloc (.cells #[] E)).drew.heap.size size (some ⟨w.heap.size, 0, none⟩) 1 XC :=
  ((Rd.lit w XC E w.heap.size 1 size rfl (by omega)).next (Below.alloc (Below.refl _ _) (Nat.le_refl _) (.cells #[] E))).drew
theorem new_A (W : World) (E size : Nat) (XC : List Value) (hx : XC.length = size) : Rd (W.alloc (.cells XC.toArray E)) (W.alloc (.cells XC.toArray E)).heap.size size (some ⟨W.heap.size, 0, none⟩) 1 XC :=
  Rd.lit W XC E W.heap.size 1 size rfl (by omega)
theorem one_sub {xs : List Value} (h : ∀ u ∈ xs, u.oneCell' = true) (j : Nat) : (∀ u ∈ xs.take j, u.oneCell' = true) ∧ (∀ u ∈ xs.drop j, u.oneCell' = true) :=
  ⟨fun u hu => h u (List.mem_of_mem_take hu), fun u hu => h u (List.mem_of_mem_drop hu)⟩
theorem nil_take {A : Option Addr} {k n c : Nat} (h : A = none → n = 0 ∧ c = 0) (hk : k ≤ n) : A = none → k = 0 ∧ c = 0 := fun e => by have := h e; omega
theorem nil_drop {A : Option Addr} {k n c sz : Nat} (h : A = none → n = 0 ∧ c = 0) (hk : k ≤ n) : (if c = k then A else A.map (·.add (k * sz))) = none → n - k = 0 ∧ c - k = 0 := fun e => by
  cases A with
  | none => have := h rfl; omega
  | some a => split at e <;> simp at e
end Go.Proofs.YtjohlbpahaklkaaDoor
