/-
  A map[string]bool whose elements are all true, as the list of its keys.
-/
import Derived.Test.YtjohlbpahaklkaaDoorBase
import Derived.Test.YtjohlbpahaklkaaDoorIter
import Derived.Maps.Own
import Derived.Maps.OwnOps
import Derived.Maps.OwnSet
import Derived.Sort.KeysCollected
namespace Go.Proofs.YtjohlbpahaklkaaDoor
set_option linter.unusedVariables false
set_option linter.unusedSimpArgs false
open Go.RowKit Go.Maps Go.Sort

theorem plainElem_bool_is {P : Program} {e : TypeId} (he : P.underlying e = some .bool) {v : Value} {x : Bool} {ps : List MemPlace} (h : plainElem (H := Unit) P e v = some (.lit (.bool x), ps)) : v = .bool x := by
  unfold plainElem at h
  rw [he] at h
  cases v <;> simp at h
  rw [h.1]
theorem lawS : Keyed Tryd.prog 9 := string_keyed Tryd.underlying9
theorem zeroB (w : World) : (zeroValue 4).run Tryd.prog w = .ok (.bool false) w := by kernel_rfl
/-- block b is a map of at most n entries: just the texts of L are its keys, each with true -/
def StrSet (w : World) (b n : Nat) (L : List (List UInt8)) : Prop :=
  ∃ D : DataW Unit, w.ownsMap Tryd.prog 9 (plainElem (H := Unit) Tryd.prog 4) b n D ∧ L.Nodup ∧ ∀ x, has D (.string x) = decide (x ∈ L) ∧ D.atKey (.string x) (.lit (.bool false)) = .lit (.bool (decide (x ∈ L)))
theorem keyS {s : ByteArray} (h : s.size ≤ maxLen) : keyOf Tryd.prog 9 (.string s) = some (.string s.data.toList) := WideMaps.keyOf_string_mk Tryd.underlying9 h
theorem isKeyS (x : List UInt8) : WideAt.IsKeyLit (.string x) := by simp [WideAt.IsKeyLit]
section
variable {w w' : World} {b n : Nat} {L : List (List UInt8)}
theorem StrSet.made (w : World) : StrSet (w.alloc (.map #[] 0)) w.heap.size 0 [] :=
  ⟨.map [], World.ownsMap_made _ _ _ _, List.nodup_nil, fun x => ⟨by simp [has], by simp [DataW.atKey]⟩⟩
theorem StrSet.mono (h : StrSet w b n L) {n' : Nat} (hn : n ≤ n') : StrSet w b n' L := by
  obtain ⟨D, h1, h2⟩ := h
  exact ⟨D, h1.mono hn, h2⟩
theorem StrSet.lt (h : StrSet w b n L) : b < w.heap.size := by obtain ⟨D, h1, _⟩ := h; exact h1.lt
theorem StrSet.same (h : StrSet w b n L) (hb : w'.heap[b]? = w.heap[b]?) : StrSet w' b n L := by
  obtain ⟨D, ⟨es, clock, h1, F, hs, hD⟩, h2⟩ := h
  exact ⟨D, ⟨es, clock, hb.trans h1, F, hs, hD⟩, h2⟩
theorem StrSet.next (h : StrSet w b n L) (hb : Below w.heap.size w w') : StrSet w' b n L := h.same (hb.block b h.lt)
theorem StrSet.drewN (h : StrSet w b n L) (k : Nat) : StrSet (w.drewN k) b n L := h.same rfl
theorem StrSet.drew (h : StrSet w b n L) : StrSet w.drew b n L := h.same rfl
theorem StrSet.set (h : StrSet w b n L) {p : Addr} {u : Value} (hp : p.block ≠ b) : StrSet (w.setCell p u) b n L :=
  h.same (Below.heap_setCell _ _ _ _ (Ne.symm hp))
/-- a text more -/
theorem StrSet.put (h : StrSet w b n L) (hn : n < maxLen) {s : ByteArray} (hs : s.size ≤ maxLen) :
    ∃ w', (Instr.mapUpdate 44 (.map (some b)) (.string s) (.bool true)).run Tryd.prog w = .ok () w' ∧ StrSet w' b (n + 1) (if s.data.toList ∈ L then L else L ++ [s.data.toList]) ∧ w.grownBy w' (some b) := by
  obtain ⟨D, h1, h2, h3⟩ := h
  obtain ⟨w', hr, ho, hg⟩ := h1.update lawS Tryd.underlying44 hn (keyS hs) (plainElem_bool Tryd.underlying4 true)
  refine ⟨w', hr, ⟨_, ho, ?_, fun x => ?_⟩, hg⟩
  · split
    · exact h2
    · rename_i hn
      refine List.nodup_append.2 ⟨h2, by simp, fun a ha c hc => ?_⟩
      simp at hc
      subst hc
      exact fun e => hn (e ▸ ha)
  · by_cases hx : x = s.data.toList
    · subst hx
      rw [has_put_same h1.isMap (isKeyS _), atKey_put_same h1.isMap (isKeyS _)]
      have : s.data.toList ∈ (if s.data.toList ∈ L then L else L ++ [s.data.toList]) := by split <;> simp_all
      simp [this]
    · have hne : (Lit.string x) ≠ (Lit.string s.data.toList) := fun e => hx (by injection e)
      rw [has_put_other hne, atKey_put_other hne]
      have : x ∈ (if s.data.toList ∈ L then L else L ++ [s.data.toList]) ↔ x ∈ L := by split <;> simp [hx]
      rw [(h3 x).1, (h3 x).2]
      simp [this]
/-- one without a text -/
theorem StrSet.drop (h : StrSet w b n L) {s : ByteArray} (hs : s.size ≤ maxLen) (ty : TypeId) :
    ∃ w', (Builtin.delete_ #[44, 9] ty #[.map (some b), .string s]).run Tryd.prog w = .ok (.tuple #[]) w' ∧ StrSet w' b n (L.filter fun x => decide (x ≠ s.data.toList)) ∧ w.mapTurned w' b := by
  obtain ⟨D, h1, h2, h3⟩ := h
  obtain ⟨w', hr, ho, hg⟩ := h1.drop lawS Tryd.underlying44 (keyS hs) ty
  refine ⟨w', hr, ⟨_, ho, h2.filter _, fun x => ?_⟩, hg⟩
  by_cases hx : x = s.data.toList
  · subst hx
    rw [has_del_same, atKey_del_same]
    simp
  · have hne : (Lit.string x) ≠ (Lit.string s.data.toList) := fun e => hx (by injection e)
    rw [has_del_other hne, atKey_del_other hne, (h3 x).1, (h3 x).2]
    simp [hx]
/-- is a text there -/
theorem StrSet.look (h : StrSet w b n L) {s : ByteArray} (hs : s.size ≤ maxLen) :
    (Instr.lookup 44 (.map (some b)) (.string s) false).run Tryd.prog w = .ok (.bool (decide (s.data.toList ∈ L))) w := by
  obtain ⟨D, h1, h2, h3⟩ := h
  obtain ⟨v, ps, hr, hv⟩ := h1.lookup lawS Tryd.underlying44 (zeroB w) (plainElem_bool Tryd.underlying4 false) (keyS hs)
  rw [(h3 _).2] at hv
  rw [hr]
  obtain rfl := plainElem_bool_is Tryd.underlying4 hv
  rfl
/-- the law at a store -/
theorem wpList_put {ops : Array Oper} {rest : List Oper} {o : Oper} {a : Act} {Q : Exit → Act → World → Prop} (hg : o.guard = none) (m x v : Operand) (hop : o.op = Op.mapUpdate 44 m x v) (b n : Nat) (L : List (List UInt8)) (hm : a.eval m = .map (some b))
    (h : StrSet w b n L) (hn : n < maxLen) (s : ByteArray) (hs : s.size ≤ maxLen) (hx : a.eval x = .string s) (hv : a.eval v = .bool true)
    (hK : ∀ w', StrSet w' b (n + 1) (if s.data.toList ∈ L then L else L ++ [s.data.toList]) → w.grownBy w' (some b) → wpList Tryd.prog ops Q rest (a.put o.dst undef) w') : wpList Tryd.prog ops Q (o :: rest) a w := by
  obtain ⟨w1, hr, h1, h2⟩ := h.put hn hs
  refine wpList_plain hg fun K hK' => ?_
  unfold Oper.wp
  simp [execOp, hop, hm, hx, hv, hr, Result.andThen]
  exact hK' _ _ (hK w1 h1 h2)
theorem StrSet.perm (h : StrSet w b n L) : ∃ D : DataW Unit, w.ownsMap Tryd.prog 9 (plainElem (H := Unit) Tryd.prog 4) b n D ∧ L.Perm (strKeys D) ∧ Maps.size D ≤ n := by
  obtain ⟨D, h1, h2, h3⟩ := h
  refine ⟨D, h1, ?_, h1.size_le⟩
  refine Collected.perm (left := fun _ => false) ⟨h2, fun x => ?_⟩ h1 lawS Tryd.underlying9 (fun _ => rfl)
  rw [(h3 x).1]
  simp
end
theorem keysW (b : Nat) (w : World) : Calls Tryd.prog 38 #[.map (some b)] w fun e w' => e = .returned (.func (.func 44) #[] #[.pointer (some ⟨w.heap.size, 0, none⟩)]) ∧ w' = w.alloc (.cells #[.map (some b)] 44) :=
  callsIn_wide.1 (Tryd.maps_Keys_38 (some b) w)
theorem sortedW {b n : Nat} {L : List (List UInt8)} {w : World} (h : StrSet w b n L) (hn : n ≤ 1000000) :
    Calls Tryd.prog 37 #[.func (.func 44) #[] #[.pointer (some ⟨w.heap.size, 0, none⟩)]] (w.alloc (.cells #[.map (some b)] 44)) fun e w' =>
      ∃ A c, e = .returned (.slice A L.length c) ∧ w'.ownsRow (w.heap.size + 1) 9 1 (.slice A L.length c) L.length ((L.mergeSort leB).map encStr) ∧ Below (w.heap.size + 1) (w.alloc (.cells #[.map (some b)] 44)) w' := by
  obtain ⟨D, h1, h2, h3⟩ := h.perm
  refine (callsIn_wide.1 (Tryd.slices_Sorted_keys_37_38 b n D _ w h1 (by unfold maxLen; omega) (by omega))).mono fun e w' ⟨v, ss, he, hp, ho, hv, hb⟩ => ?_
  have hl : ss.length = L.length := (hp.trans h2.symm).length_eq
  have hm : (ss.mergeSort fun x y => decide (x ≤ y)) = L.mergeSort leB := mergeSort_of_perm (hp.trans h2.symm)
  rw [hm, hl] at ho
  have hz : (w.alloc (.cells #[.map (some b)] 44)).heap.size = w.heap.size + 1 := World.size_alloc _ _
  rw [hz] at ho hb
  obtain ⟨A, c, rfl⟩ := ownsRow_slice ho
  exact ⟨A, c, he, ho, hb⟩
end Go.Proofs.YtjohlbpahaklkaaDoor
