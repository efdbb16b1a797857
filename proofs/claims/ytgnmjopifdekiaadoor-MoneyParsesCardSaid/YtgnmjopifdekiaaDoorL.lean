/-
  Money: Parse, walked.
-/
import Derived.Test.YtgnmjopifdekiaaDoorF
import Derived.Test.YtgnmjopifdekiaaDoorPr
namespace Go.Proofs.YtgnmjopifdekiaaDoor
set_option linter.unusedVariables false
set_option linter.unusedSimpArgs false
open Go.RowKit

def resP : Option (ByteArray × Int) → Value
  | some (c, n) => .tuple #[mv c n, .int .i64 0]
  | none => .tuple #[mv ⟨#[]⟩ 0, .int .i64 2]
theorem cutW (s : ByteArray) (hs : s.size ≤ 60) (w : World) (hT : Lv w) :
    Calls Tryd.prog 38 #[.string s, .string ⟨#[32]⟩] w fun e w' => e = .returned (.tuple #[.string (cutA s), .string (cutB s), .bool (cutOk s)]) ∧ Below w.heap.size w w' := by
  obtain ⟨m, hm⟩ := hT.ml
  exact (Tryd.strings_Cut s ⟨#[32]⟩ m w (by omega) hm).mono fun e w' ⟨he, k, hw⟩ => ⟨he, hw ▸ (by (repeat' first | exact Below.refl _ _ | (with_reducible assumption) | (with_reducible refine bAlloc (by first | omega | (simp <;> omega)) ?_) | (with_reducible refine bSet (by first | omega | (simp <;> omega)) ?_) | (with_reducible refine bDrew ?_) | (with_reducible refine bDrewN ?_) | (with_reducible refine bTrans (by with_reducible assumption) (by first | omega | (simp <;> omega)) ?_)))⟩
theorem replW (t : ByteArray) (hs : t.size ≤ 60) (w : World) (hT : Lv w) :
    Calls Tryd.prog 40 #[.string t, .string ⟨#[46]⟩, .string ⟨#[]⟩, .int .i64 1] w fun e w' => e = .returned (.string (numB t)) ∧ Below w.heap.size w w' := by
  obtain ⟨m, hm⟩ := hT.ml
  exact (Tryd.strings_Replace t ⟨#[46]⟩ ⟨#[]⟩ 1 m w (by omega) hm (by decide) (by show _ + _ * 0 ≤ _; omega)).mono fun e w' ⟨he, hw⟩ => ⟨he, hw⟩
theorem numOkW (u : ByteArray) (hs : u.size ≤ 60) (n : Int) (h : Lib.parseIntB 64 u.data.toList = .ok n) (w : World) :
    Calls Tryd.prog 39 #[.string u, .int .i64 10, .int .i64 64] w fun e w' => e = .returned (.tuple #[.int .i64 n, .nilIface]) ∧ Below w.heap.size w w' :=
  (Tryd.strconv_ParseInt_10_at64_ok u (by omega) n h w).mono fun e w' ⟨he, hw⟩ => ⟨he, by
    rcases hw with rfl | ⟨t, rfl⟩
    · exact Below.refl _ _
    · exact Lib.bytesWorld_below _ _ _⟩
theorem numBadW (u : ByteArray) (hs : u.size ≤ 60) (h : ∀ n, Lib.parseIntB 64 u.data.toList ≠ .ok n) (w : World) (hT : Lv w) :
    Calls Tryd.prog 39 #[.string u, .int .i64 10, .int .i64 64] w fun e w' => (∃ v N, e = .returned (.tuple #[.int .i64 v, .iface 106 (.pointer (some ⟨N, 0, none⟩))])) ∧ Below w.heap.size w w' := by
  rcases hp : Lib.parseIntB 64 u.data.toList with n | _ | _
  · exact absurd hp (h n)
  · obtain ⟨tp, p, hv⟩ := hT.es
    exact (Any.strconv_ParseInt_10_at64_syntax_var Tryd.laysC174 u (by omega) hp tp p w hv).mono fun e w' ⟨N, he, _, _, hb⟩ => ⟨⟨_, N, he⟩, hb⟩
  · obtain ⟨tp, p, hv⟩ := hT.er
    exact (Tryd.strconv_ParseInt_10_at64_range_var u (by omega) hp tp p w hv).mono fun e w' ⟨N, he, _, _, hb⟩ => ⟨⟨_, N, he⟩, hb⟩
theorem errNe (t : TypeId) (v : Value) (w : World) : Sem.run Tryd.prog (binOp BinOp.neq 65 (Value.iface t v) Value.nilIface) w = .ok (.bool true) w := by kernel_rfl
/-- the world in which the result's box is as it was made -/
structure B1r (w W : World) : Prop where
  hB : Below w.heap.size w W
  hz : w.heap.size < W.heap.size
  r0 : W.cell? ⟨w.heap.size, 0, none⟩ = some (.string ⟨#[]⟩)
  r1 : W.cell? ⟨w.heap.size, 1, none⟩ = some (.int .i64 0)
  f0 : W.frozen? ⟨w.heap.size, 0, none⟩ = false
  f1 : W.frozen? ⟨w.heap.size, 1, none⟩ = false
theorem B1r.next {w W W' : World} (h : B1r w W) (hb : Below W.heap.size W W') : B1r w W' := by
  obtain ⟨hB, hz, r0, r1, f0, f1⟩ := h
  have hfz := (bcell hb).2
  have := hb.size
  exact ⟨hB.trans (hb.mono hB.size), by omega, (hb.cell (p := ⟨w.heap.size, 0, none⟩) (by show w.heap.size < _; omega)).trans r0, (hb.cell (p := ⟨w.heap.size, 1, none⟩) (by show w.heap.size < _; omega)).trans r1, (hfz _ _ (by omega)).trans f0, (hfz _ _ (by omega)).trans f1⟩
theorem B1r.new {w : World} (v : TypeId) : B1r w (w.alloc (.cells #[.string ⟨#[]⟩, .int .i64 0] v)) := ⟨by (repeat' first | exact Below.refl _ _ | (with_reducible assumption) | (with_reducible refine bAlloc (by first | omega | (simp <;> omega)) ?_) | (with_reducible refine bSet (by first | omega | (simp <;> omega)) ?_) | (with_reducible refine bDrew ?_) | (with_reducible refine bDrewN ?_) | (with_reducible refine bTrans (by with_reducible assumption) (by first | omega | (simp <;> omega)) ?_)), by simp, by simp [go_sem], by simp [go_sem], by simp [go_sem], by simp [go_sem]⟩
theorem B1r.out {w W : World} (h : B1r w W) (o : Obj) : B1r w (W.alloc o) := h.next (by (repeat' first | exact Below.refl _ _ | (with_reducible assumption) | (with_reducible refine bAlloc (by first | omega | (simp <;> omega)) ?_) | (with_reducible refine bSet (by first | omega | (simp <;> omega)) ?_) | (with_reducible refine bDrew ?_) | (with_reducible refine bDrewN ?_) | (with_reducible refine bTrans (by with_reducible assumption) (by first | omega | (simp <;> omega)) ?_)))
set_option maxHeartbeats 2000000 in
set_option maxRecDepth 100000 in
theorem ParseW (s : ByteArray) (hs : s.size ≤ 60) (w : World) (hT : Lv w) :
    Calls Tryd.prog 16 #[.string s] w fun e w' => e = .returned (resP (parseM s)) ∧ Below w.heap.size w w' := by
  obtain ⟨hza, hzb⟩ := cutA_size s
  have hzu := numB_size (cutB s)
  have hC := fun w h => cutW s hs w h
  have hR := fun w h => replW (cutB s) (by omega) w h
  cases hok : cutOk s with
  | false =>
    have he := Lib.hid (show parseM s = none by unfold parseM; rw [hok]; rfl)
    simp only [hok] at hC
    clear hok hR
    generalize cutA s = A at *
    generalize cutB s = T at *
    go_enter Tryd.func16, Tryd.ntmps16
    go_wp2_with (go_at_call 38; (with_reducible refine (hC _ (hT.next (by (repeat' first | exact Below.refl _ _ | (with_reducible assumption) | (with_reducible refine bAlloc (by first | omega | (simp <;> omega)) ?_) | (with_reducible refine bSet (by first | omega | (simp <;> omega)) ?_) | (with_reducible refine bDrew ?_) | (with_reducible refine bDrewN ?_) | (with_reducible refine bTrans (by with_reducible assumption) (by first | omega | (simp <;> omega)) ?_))))).mono ?_); rintro e w1 ⟨rfl, hxb⟩; (have hWn : B1r w w1 := B1r.next (by first | (with_reducible assumption) | exact B1r.new _ | exact B1r.out (by with_reducible assumption) _) hxb); obtain ⟨hxc, hxf⟩ := bcell hxb; clear hxb hxf; obtain ⟨hxB, hxl0, hxq4, hxq5, hxf0, hxf1⟩ := id hWn)
    (refine bodyPost_ret (v := .tuple #[mv ⟨#[]⟩ 0, .int .i64 2]) (by simp [results, Tryd.results16, go_sem, hxq4, hxq5, hxl0]) rfl ⟨by rw [he.out] <;> rfl, by (repeat' first | exact Below.refl _ _ | (with_reducible assumption) | (with_reducible refine bAlloc (by first | omega | (simp <;> omega)) ?_) | (with_reducible refine bSet (by first | omega | (simp <;> omega)) ?_) | (with_reducible refine bDrew ?_) | (with_reducible refine bDrewN ?_) | (with_reducible refine bTrans (by with_reducible assumption) (by first | omega | (simp <;> omega)) ?_))⟩)
  | true =>
  simp only [hok] at hC
  by_cases hex : ∃ n, Lib.parseIntB 64 (numB (cutB s)).data.toList = .ok n
  · obtain ⟨n, hn⟩ := hex
    have hN := fun w => numOkW (numB (cutB s)) (by omega) n hn w
    have hX := fun w h => TextW (cutA s) n w h
    have hst := str_eqB (textM (cutA s) n) s
    have hpm : parseM s = if textM (cutA s) n = s then some (cutA s, n) else none := by
      unfold parseM
      rw [if_pos hok, hn]
    by_cases hq : textM (cutA s) n = s
    · rw [if_pos hq] at hpm
      have he := Lib.hid hpm
      rw [hq] at hX
      clear hpm hst hn hok hq
      generalize numB (cutB s) = U at *
      generalize cutA s = A at *
      generalize cutB s = T at *
      go_enter Tryd.func16, Tryd.ntmps16
      go_wp2_with (first | (go_at_call 38; (with_reducible refine (hC _ (hT.next (by (repeat' first | exact Below.refl _ _ | (with_reducible assumption) | (with_reducible refine bAlloc (by first | omega | (simp <;> omega)) ?_) | (with_reducible refine bSet (by first | omega | (simp <;> omega)) ?_) | (with_reducible refine bDrew ?_) | (with_reducible refine bDrewN ?_) | (with_reducible refine bTrans (by with_reducible assumption) (by first | omega | (simp <;> omega)) ?_))))).mono ?_); rintro e w1 ⟨rfl, hxb⟩; (have hWn : B1r w w1 := B1r.next (by first | (with_reducible assumption) | exact B1r.new _ | exact B1r.out (by with_reducible assumption) _) hxb); obtain ⟨hxc, hxf⟩ := bcell hxb; clear hxb hxf; obtain ⟨hxB, hxl0, hxq4, hxq5, hxf0, hxf1⟩ := id hWn) | (go_at_call 40; (with_reducible refine (hR _ (hT.next (by (repeat' first | exact Below.refl _ _ | (with_reducible assumption) | (with_reducible refine bAlloc (by first | omega | (simp <;> omega)) ?_) | (with_reducible refine bSet (by first | omega | (simp <;> omega)) ?_) | (with_reducible refine bDrew ?_) | (with_reducible refine bDrewN ?_) | (with_reducible refine bTrans (by with_reducible assumption) (by first | omega | (simp <;> omega)) ?_))))).mono ?_); rintro e w1 ⟨rfl, hxb⟩; (have hWn : B1r w w1 := B1r.next (by first | (with_reducible assumption) | exact B1r.new _ | exact B1r.out (by with_reducible assumption) _) hxb); obtain ⟨hxc, hxf⟩ := bcell hxb; clear hxb hxf; obtain ⟨hxB, hxl0, hxq4, hxq5, hxf0, hxf1⟩ := id hWn) | (go_at_call 39; (with_reducible refine (hN _).mono ?_); rintro e w1 ⟨rfl, hxb⟩; (have hWn : B1r w w1 := B1r.next (by first | (with_reducible assumption) | exact B1r.new _ | exact B1r.out (by with_reducible assumption) _) hxb); obtain ⟨hxc, hxf⟩ := bcell hxb; clear hxb hxf; obtain ⟨hxB, hxl0, hxq4, hxq5, hxf0, hxf1⟩ := id hWn) | (go_at_call 15; (with_reducible refine (hX _ (hT.next (by (repeat' first | exact Below.refl _ _ | (with_reducible assumption) | (with_reducible refine bAlloc (by first | omega | (simp <;> omega)) ?_) | (with_reducible refine bSet (by first | omega | (simp <;> omega)) ?_) | (with_reducible refine bDrew ?_) | (with_reducible refine bDrewN ?_) | (with_reducible refine bTrans (by with_reducible assumption) (by first | omega | (simp <;> omega)) ?_))))).mono ?_); rintro e w1 ⟨rfl, hxb⟩; (have hWn : B1r w w1 := B1r.next (by first | (with_reducible assumption) | exact B1r.new _ | exact B1r.out (by with_reducible assumption) _) hxb); obtain ⟨hxc, hxf⟩ := bcell hxb; clear hxb hxf; obtain ⟨hxB, hxl0, hxq4, hxq5, hxf0, hxf1⟩ := id hWn))
      (refine bodyPost_ret (v := .tuple #[mv A n, .int .i64 0]) (by simp [results, Tryd.results16, go_sem, hxq4, hxq5, hxl0]) rfl ⟨by rw [he.out] <;> rfl, by (repeat' first | exact Below.refl _ _ | (with_reducible assumption) | (with_reducible refine bAlloc (by first | omega | (simp <;> omega)) ?_) | (with_reducible refine bSet (by first | omega | (simp <;> omega)) ?_) | (with_reducible refine bDrew ?_) | (with_reducible refine bDrewN ?_) | (with_reducible refine bTrans (by with_reducible assumption) (by first | omega | (simp <;> omega)) ?_))⟩)
    · rw [if_neg hq] at hpm
      have he := Lib.hid hpm
      rw [show decide (textM (cutA s) n = s) = false from decide_eq_false hq] at hst
      clear hpm hn hok hq
      generalize textM (cutA s) n = Z at *
      generalize numB (cutB s) = U at *
      generalize cutA s = A at *
      generalize cutB s = T at *
      go_enter Tryd.func16, Tryd.ntmps16
      go_wp2_with (first | (go_at_call 38; (with_reducible refine (hC _ (hT.next (by (repeat' first | exact Below.refl _ _ | (with_reducible assumption) | (with_reducible refine bAlloc (by first | omega | (simp <;> omega)) ?_) | (with_reducible refine bSet (by first | omega | (simp <;> omega)) ?_) | (with_reducible refine bDrew ?_) | (with_reducible refine bDrewN ?_) | (with_reducible refine bTrans (by with_reducible assumption) (by first | omega | (simp <;> omega)) ?_))))).mono ?_); rintro e w1 ⟨rfl, hxb⟩; (have hWn : B1r w w1 := B1r.next (by first | (with_reducible assumption) | exact B1r.new _ | exact B1r.out (by with_reducible assumption) _) hxb); obtain ⟨hxc, hxf⟩ := bcell hxb; clear hxb hxf; obtain ⟨hxB, hxl0, hxq4, hxq5, hxf0, hxf1⟩ := id hWn) | (go_at_call 40; (with_reducible refine (hR _ (hT.next (by (repeat' first | exact Below.refl _ _ | (with_reducible assumption) | (with_reducible refine bAlloc (by first | omega | (simp <;> omega)) ?_) | (with_reducible refine bSet (by first | omega | (simp <;> omega)) ?_) | (with_reducible refine bDrew ?_) | (with_reducible refine bDrewN ?_) | (with_reducible refine bTrans (by with_reducible assumption) (by first | omega | (simp <;> omega)) ?_))))).mono ?_); rintro e w1 ⟨rfl, hxb⟩; (have hWn : B1r w w1 := B1r.next (by first | (with_reducible assumption) | exact B1r.new _ | exact B1r.out (by with_reducible assumption) _) hxb); obtain ⟨hxc, hxf⟩ := bcell hxb; clear hxb hxf; obtain ⟨hxB, hxl0, hxq4, hxq5, hxf0, hxf1⟩ := id hWn) | (go_at_call 39; (with_reducible refine (hN _).mono ?_); rintro e w1 ⟨rfl, hxb⟩; (have hWn : B1r w w1 := B1r.next (by first | (with_reducible assumption) | exact B1r.new _ | exact B1r.out (by with_reducible assumption) _) hxb); obtain ⟨hxc, hxf⟩ := bcell hxb; clear hxb hxf; obtain ⟨hxB, hxl0, hxq4, hxq5, hxf0, hxf1⟩ := id hWn) | (go_at_call 15; (with_reducible refine (hX _ (hT.next (by (repeat' first | exact Below.refl _ _ | (with_reducible assumption) | (with_reducible refine bAlloc (by first | omega | (simp <;> omega)) ?_) | (with_reducible refine bSet (by first | omega | (simp <;> omega)) ?_) | (with_reducible refine bDrew ?_) | (with_reducible refine bDrewN ?_) | (with_reducible refine bTrans (by with_reducible assumption) (by first | omega | (simp <;> omega)) ?_))))).mono ?_); rintro e w1 ⟨rfl, hxb⟩; (have hWn : B1r w w1 := B1r.next (by first | (with_reducible assumption) | exact B1r.new _ | exact B1r.out (by with_reducible assumption) _) hxb); obtain ⟨hxc, hxf⟩ := bcell hxb; clear hxb hxf; obtain ⟨hxB, hxl0, hxq4, hxq5, hxf0, hxf1⟩ := id hWn))
      (refine bodyPost_ret (v := .tuple #[mv ⟨#[]⟩ 0, .int .i64 2]) (by simp [results, Tryd.results16, go_sem, hxq4, hxq5, hxl0]) rfl ⟨by rw [he.out] <;> rfl, by (repeat' first | exact Below.refl _ _ | (with_reducible assumption) | (with_reducible refine bAlloc (by first | omega | (simp <;> omega)) ?_) | (with_reducible refine bSet (by first | omega | (simp <;> omega)) ?_) | (with_reducible refine bDrew ?_) | (with_reducible refine bDrewN ?_) | (with_reducible refine bTrans (by with_reducible assumption) (by first | omega | (simp <;> omega)) ?_))⟩)
  · have hN := fun w h => numBadW (numB (cutB s)) (by omega) (fun n h => hex ⟨n, h⟩) w h
    have hE := errNe 106
    have he := Lib.hid (show parseM s = none by
      unfold parseM
      rw [if_pos hok]
      rcases hp : Lib.parseIntB 64 (numB (cutB s)).data.toList with n | _ | _
      · exact absurd ⟨n, hp⟩ hex
      · rfl
      · rfl)
    clear hok hex
    generalize numB (cutB s) = U at *
    generalize cutA s = A at *
    generalize cutB s = T at *
    go_enter Tryd.func16, Tryd.ntmps16
    go_wp2_with (first | (go_at_call 38; (with_reducible refine (hC _ (hT.next (by (repeat' first | exact Below.refl _ _ | (with_reducible assumption) | (with_reducible refine bAlloc (by first | omega | (simp <;> omega)) ?_) | (with_reducible refine bSet (by first | omega | (simp <;> omega)) ?_) | (with_reducible refine bDrew ?_) | (with_reducible refine bDrewN ?_) | (with_reducible refine bTrans (by with_reducible assumption) (by first | omega | (simp <;> omega)) ?_))))).mono ?_); rintro e w1 ⟨rfl, hxb⟩; (have hWn : B1r w w1 := B1r.next (by first | (with_reducible assumption) | exact B1r.new _ | exact B1r.out (by with_reducible assumption) _) hxb); obtain ⟨hxc, hxf⟩ := bcell hxb; clear hxb hxf; obtain ⟨hxB, hxl0, hxq4, hxq5, hxf0, hxf1⟩ := id hWn) | (go_at_call 40; (with_reducible refine (hR _ (hT.next (by (repeat' first | exact Below.refl _ _ | (with_reducible assumption) | (with_reducible refine bAlloc (by first | omega | (simp <;> omega)) ?_) | (with_reducible refine bSet (by first | omega | (simp <;> omega)) ?_) | (with_reducible refine bDrew ?_) | (with_reducible refine bDrewN ?_) | (with_reducible refine bTrans (by with_reducible assumption) (by first | omega | (simp <;> omega)) ?_))))).mono ?_); rintro e w1 ⟨rfl, hxb⟩; (have hWn : B1r w w1 := B1r.next (by first | (with_reducible assumption) | exact B1r.new _ | exact B1r.out (by with_reducible assumption) _) hxb); obtain ⟨hxc, hxf⟩ := bcell hxb; clear hxb hxf; obtain ⟨hxB, hxl0, hxq4, hxq5, hxf0, hxf1⟩ := id hWn) | (go_at_call 39; (with_reducible refine (hN _ (hT.next (by (repeat' first | exact Below.refl _ _ | (with_reducible assumption) | (with_reducible refine bAlloc (by first | omega | (simp <;> omega)) ?_) | (with_reducible refine bSet (by first | omega | (simp <;> omega)) ?_) | (with_reducible refine bDrew ?_) | (with_reducible refine bDrewN ?_) | (with_reducible refine bTrans (by with_reducible assumption) (by first | omega | (simp <;> omega)) ?_))))).mono ?_); rintro e w1 ⟨⟨v, N, rfl⟩, hxb⟩; (have hWn : B1r w w1 := B1r.next (by with_reducible assumption) hxb); obtain ⟨hxc, hxf⟩ := bcell hxb; clear hxb hxf; obtain ⟨hxB, hxl0, hxq4, hxq5, hxf0, hxf1⟩ := id hWn))
    (refine bodyPost_ret (v := .tuple #[mv ⟨#[]⟩ 0, .int .i64 2]) (by simp [results, Tryd.results16, go_sem, hxq4, hxq5, hxl0]) rfl ⟨by rw [he.out] <;> rfl, by (repeat' first | exact Below.refl _ _ | (with_reducible assumption) | (with_reducible refine bAlloc (by first | omega | (simp <;> omega)) ?_) | (with_reducible refine bSet (by first | omega | (simp <;> omega)) ?_) | (with_reducible refine bDrew ?_) | (with_reducible refine bDrewN ?_) | (with_reducible refine bTrans (by with_reducible assumption) (by first | omega | (simp <;> omega)) ?_))⟩)
end Go.Proofs.YtgnmjopifdekiaaDoor
