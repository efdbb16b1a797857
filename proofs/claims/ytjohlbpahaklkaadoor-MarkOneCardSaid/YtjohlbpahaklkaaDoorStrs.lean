/-
  Slices that read as lists of texts.
-/
import Derived.Test.YtjohlbpahaklkaaDoorIns
import Derived.Sort.KeysCollected
import Derived.Sort.Walk0
namespace Go.Proofs.YtjohlbpahaklkaaDoor
set_option linter.unusedVariables false
set_option linter.unusedSimpArgs false
open Go.RowKit Go.Sort

/-- the slice of address A reads as the texts of L -/
def RowS (w : World) (A : Option Addr) (L : List (List UInt8)) : Prop := Rd w w.heap.size 1 A L.length (L.map encStr)
theorem RowS.next {w w' : World} {A : Option Addr} {L : List (List UInt8)} (h : RowS w A L) (hb : Below w.heap.size w w') : RowS w' A L := Rd.next h hb
theorem RowS.at_ {w : World} {A : Option Addr} {L : List (List UInt8)} (h : RowS w A L) {i : Nat} (hi : i < L.length) : ∃ ad, A = some ad ∧ ad.block < w.heap.size ∧ w.cell? (ad.add i) = some (.string ⟨L[i].toArray⟩) := by
  obtain ⟨ad, e, hb, hc⟩ := h.2 (by omega)
  exact ⟨ad, e, hb, hc i _ (by rw [List.getElem?_map, List.getElem?_eq_getElem hi]; rfl)⟩
theorem one_strs (L : List (List UInt8)) : ∀ u ∈ L.map encStr, u.oneCell' = true := by
  intro u hu
  obtain ⟨x, _, rfl⟩ := List.mem_map.1 hu
  rfl
theorem elemS : ElemT Tryd.prog 35 9 1 16 := ⟨by kernel_rfl, by omega, by kernel_rfl⟩
theorem less_eq (Y s : ByteArray) : Op.bytesLess Y.toList s.toList = decide (Y.data.toList < s.data.toList) := by
  rw [bytesLess_eq, ByteArray.toList_eq, ByteArray.toList_eq]
theorem mk_list (y : List UInt8) : (⟨y.toArray⟩ : ByteArray).data.toList = y := by simp
theorem encS (s : ByteArray) : encStr s.data.toList = .string s := rfl
/-- a slice of n cells, its room c -/
structure Sl (W : World) (A : Option Addr) (c : Nat) (L : List (List UInt8)) : Prop where
  row : RowS W A L
  cap : L.length ≤ c
  max : c ≤ maxLen
  nl : A = none → L.length = 0 ∧ c = 0
theorem Sl.next {w w' : World} {A : Option Addr} {c : Nat} {L : List (List UInt8)} (h : Sl w A c L) (hb : Below w.heap.size w w') : Sl w' A c L := ⟨h.row.next hb, h.cap, h.max, h.nl⟩
/-- what comes back: the texts of L, in new memory -/
def RetL (w : World) (L : List (List UInt8)) (e : Ending) (w' : World) : Prop := ∃ A c, e = .returned (.slice A L.length c) ∧ Sl w' A c L ∧ Below w.heap.size w w'
theorem ownsRow_cap {w : World} {base size n c : Nat} {e : TypeId} {A : Option Addr} {xs : List Value} (h : w.ownsRow base e size (.slice A n c) n xs) : n ≤ c ∧ c ≤ maxLen ∧ (A = none → n = 0 ∧ c = 0) := by
  obtain ⟨hx, ⟨h1, rfl⟩ | ⟨g, cap, cur, h1, hb, hg, hn, hm, hs, ht⟩⟩ := h
  · injection h1 with h1 h2 h3
    exact ⟨by omega, by rw [h3]; unfold maxLen; omega, fun _ => ⟨rfl, h3⟩⟩
  · injection h1 with h0 _ h1
    subst h1
    exact ⟨hn, hm, fun e => by rw [e] at h0; cases h0⟩
theorem rd_own {w : World} {base size n c : Nat} {e : TypeId} {A : Option Addr} {xs : List Value} (h : w.ownsRow base e size (.slice A n c) n xs) : Rd w w.heap.size size A n xs := by
  obtain ⟨A', c', h1, h2⟩ := Rd.of_own h
  injection h1 with h1 _ _
  subst h1
  exact h2
theorem Sl.of_own {w : World} {base n c : Nat} {e : TypeId} {A : Option Addr} {L : List (List UInt8)} (hn : L.length = n) (h : w.ownsRow base e 1 (.slice A n c) n (L.map encStr)) : Sl w A c L := by
  subst hn
  have := ownsRow_cap h
  exact ⟨rd_own h, this.1, this.2.1, this.2.2⟩
theorem Sl.empty (w : World) (E : TypeId) : Sl (w.alloc (.cells #[] E)) (some ⟨w.heap.size, 0, none⟩) 0 [] :=
  ⟨⟨rfl, fun h => absurd h (by simp)⟩, Nat.le_refl _, by unfold maxLen; omega, fun h => by cases h⟩
theorem Sl.nil (w : World) : Sl w none 0 [] := ⟨⟨rfl, fun h => absurd h (by simp)⟩, Nat.le_refl _, by unfold maxLen; omega, fun _ => ⟨rfl, rfl⟩⟩
/-- a text among rising ones -/
def putL (l : List (List UInt8)) (x : List UInt8) : List (List UInt8) := l.takeWhile (fun y => decide (y < x)) ++ x :: l.dropWhile (fun y => decide (y < x))
theorem split_while {α : Type} {p : α → Bool} : ∀ {l : List α} {k : Nat}, (∀ y ∈ l.take k, p y = true) → (∀ h : k < l.length, p l[k] = false) → l.takeWhile p = l.take k ∧ l.dropWhile p = l.drop k
  | [], k, _, _ => by simp
  | x :: l, 0, _, h => by
    have := h (by simp)
    simp at this
    simp [this]
  | x :: l, k + 1, h1, h2 => by
    have hx := h1 x (by simp)
    obtain ⟨a, b⟩ := split_while (l := l) (k := k) (fun y hy => h1 y (by simp [hy])) (fun h => by have := h2 (by simpa using h); simpa using this)
    simp [hx, a, b]
theorem putL_split {l : List (List UInt8)} {x : List UInt8} {k : Nat} (h1 : ∀ y ∈ l.take k, y < x) (h2 : ∀ h : k < l.length, ¬ l[k] < x) : putL l x = l.take k ++ x :: l.drop k := by
  obtain ⟨a, b⟩ := split_while (p := fun y => decide (y < x)) (l := l) (k := k) (fun y hy => by simpa using h1 y hy) (fun h => by simpa using h2 h)
  unfold putL
  rw [a, b]
theorem leB_tr : ∀ a b c : List UInt8, leB a b = true → leB b c = true → leB a c = true := fun a b c h1 h2 => by simp only [leB, decide_eq_true_eq] at *; exact List.le_trans h1 h2
theorem leB_to : ∀ a b : List UInt8, (leB a b || leB b a) = true := fun a b => by simp only [leB, Bool.or_eq_true, decide_eq_true_eq]; exact List.le_total a b
theorem sort_uniq {l l' : List (List UInt8)} (hp : l.Perm l') (h1 : l.Pairwise fun a b => leB a b = true) (h2 : l'.Pairwise fun a b => leB a b = true) : l = l' := by
  refine List.Perm.eq_of_pairwise (le := fun a b => leB a b = true) (fun a b _ _ h1 h2 => ?_) h1 h2 hp
  simp only [leB, decide_eq_true_eq] at h1 h2
  exact List.le_antisymm h1 h2
theorem putL_perm (l : List (List UInt8)) (x : List UInt8) : (putL l x).Perm (l ++ [x]) := by
  unfold putL
  have h := List.takeWhile_append_dropWhile (p := fun y => decide (y < x)) (l := l)
  generalize l.takeWhile (fun y => decide (y < x)) = a at *
  generalize l.dropWhile (fun y => decide (y < x)) = b at *
  subst h
  rw [List.append_assoc]
  exact List.Perm.append_left a (List.perm_append_singleton x b).symm
theorem takeWhile_all {α : Type} {p : α → Bool} {y : α} : ∀ {l : List α}, y ∈ l.takeWhile p → p y = true
  | x :: l, h => by
    rw [List.takeWhile_cons] at h
    split at h
    · rename_i hx
      rcases List.mem_cons.1 h with rfl | h
      · exact hx
      · exact takeWhile_all h
    · cases h
theorem putL_pair {l : List (List UInt8)} {x : List UInt8} (h : l.Pairwise fun a b => leB a b = true) : (putL l x).Pairwise fun a b => leB a b = true := by
  have hs := List.takeWhile_append_dropWhile (p := fun y => decide (y < x)) (l := l)
  have ha : ∀ y ∈ l.takeWhile (fun y => decide (y < x)), y < x := fun y hy => by
    have := takeWhile_all hy
    simpa using this
  have hb : ∀ y ∈ (l.dropWhile (fun y => decide (y < x))).head?, ¬ y < x := fun y hy => by
    have := List.head?_dropWhile_not (fun y => decide (y < x)) l
    rw [hy] at this
    simpa using this
  unfold putL
  generalize l.takeWhile (fun y => decide (y < x)) = a at *
  generalize l.dropWhile (fun y => decide (y < x)) = b at *
  rw [← hs] at h
  obtain ⟨p1, p2, p3⟩ := List.pairwise_append.1 h
  have hxb : ∀ y ∈ b, leB x y = true := by
    cases b with
    | nil => simp
    | cons z r =>
      have hz : ¬ z < x := hb z (by simp)
      have hxz : leB x z = true := by simp only [leB, decide_eq_true_eq]; exact List.not_lt.1 hz
      intro y hy
      rcases List.mem_cons.1 hy with rfl | hy
      · exact hxz
      · exact leB_tr _ _ _ hxz ((List.pairwise_cons.1 p2).1 y hy)
  refine List.pairwise_append.2 ⟨p1, List.pairwise_cons.2 ⟨hxb, p2⟩, fun u hu v hv => ?_⟩
  have hux : leB u x = true := by simp only [leB, decide_eq_true_eq]; exact List.le_of_lt (ha u hu)
  rcases List.mem_cons.1 hv with rfl | hv
  · exact hux
  · exact leB_tr _ _ _ hux (hxb v hv)
theorem putL_sort (L : List (List UInt8)) (x : List UInt8) : putL (L.mergeSort leB) x = (L ++ [x]).mergeSort leB :=
  sort_uniq ((putL_perm _ _).trans ((List.Perm.append_right [x] (List.mergeSort_perm L leB)).trans (List.mergeSort_perm _ leB).symm)) (putL_pair (List.pairwise_mergeSort leB_tr leB_to L)) (List.pairwise_mergeSort leB_tr leB_to _)
end Go.Proofs.YtjohlbpahaklkaaDoor
