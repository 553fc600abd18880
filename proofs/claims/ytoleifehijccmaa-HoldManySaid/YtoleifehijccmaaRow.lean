/-
  A slice of structs of the call's own that is written in place: reading an element, storing one, cutting it short.
-/
import Derived.Test.YtoleifehijccmaaRoot
import Derived.Laws.IdiomCopy
import Derived.Laws.OwnMore
import Derived.Lib.SliceRun
namespace Go.Proofs.Ytoleifehijccmaa
set_option linter.unusedVariables false
open Go.RowKit

section
variable {α : Type} {w w' : World} {base : Nat} {e : TypeId} {enc : α → List Value} {k g cap : Nat} {l : List α}
theorem Owns.getc (hk : ∀ x, (enc x).length = k) (h : Owns w base e enc k (.slice (some ⟨g, 0, none⟩) l.length cap) l) {i : Nat} (hi : i < l.length) {j : Nat} {u : Value} (hu : (enc l[i])[j]? = some u) : w.cell? ⟨g, i * k + j, none⟩ = some u := by
  have hj : j < k := by rw [← hk l[i]]; exact (List.getElem?_eq_some_iff.1 hu).1
  have hlt : i * k + j < l.length * k := by
    have : (i + 1) * k ≤ l.length * k := Nat.mul_le_mul_right k hi
    rw [Nat.add_mul, Nat.one_mul] at this
    omega
  rw [World.ownsRow.cellAt h _ hlt]
  exact flat_get hk l i hi j u hu
theorem Owns.frz (h : Owns w base e enc k (.slice (some ⟨g, 0, none⟩) l.length cap) l) (j : Nat) : w.frozen? ⟨g, j, none⟩ = false := World.ownsRow.frozenAt h j
theorem Owns.blk_lt (h : Owns w base e enc k (.slice (some ⟨g, 0, none⟩) l.length cap) l) : base ≤ g ∧ g < w.heap.size := by
  obtain ⟨A, c, hv, _, hA⟩ := h.form
  injection hv with h1
  exact hA _ h1.symm
theorem Owns.cap_le (h : Owns w base e enc k (.slice (some ⟨g, 0, none⟩) l.length cap) l) : l.length ≤ cap := by
  rcases h.2 with ⟨h', _⟩ | ⟨g', cap', cur, h', _, _, hn, _⟩
  · simp at h'
  · injection h' with _ _ h3
    omega
/-- A store beyond the first n elements does not touch them. -/
theorem Owns.beyond (h : Owns w base e enc k (.slice (some ⟨g, 0, none⟩) l.length cap) l) {o : Nat} (ho : l.length * k ≤ o) (u : Value) : Owns (w.setCell ⟨g, o, none⟩ u) base e enc k (.slice (some ⟨g, 0, none⟩) l.length cap) l ∧ w.grownBy (w.setCell ⟨g, o, none⟩ u) (some g) := by
  obtain ⟨h1, h2⟩ := World.ownsRow.stored h o u
  refine ⟨?_, h2⟩
  have e : (l.flatMap enc).set o u = l.flatMap enc := List.set_eq_of_length_le (by rw [h.1]; exact ho)
  unfold Owns
  rw [← e]
  exact h1
theorem Owns.beyonds : ∀ (vs : List Value) {w : World} {o : Nat}, Owns w base e enc k (.slice (some ⟨g, 0, none⟩) l.length cap) l → l.length * k ≤ o → Owns (w.setCells g o vs) base e enc k (.slice (some ⟨g, 0, none⟩) l.length cap) l ∧ w.grownBy (w.setCells g o vs) (some g)
  | [], w, o, h, _ => ⟨h, World.grownBy.refl _ _⟩
  | v :: vs, w, o, h, ho => by
    obtain ⟨h1, h2⟩ := h.beyond ho v
    obtain ⟨h3, h4⟩ := Owns.beyonds vs h1 (by omega : l.length * k ≤ o + 1)
    exact ⟨h3, grown_trans h2 h4⟩
/-- The first m elements. -/
theorem Owns.cut (hk : ∀ x, (enc x).length = k) (h : Owns w base e enc k (.slice (some ⟨g, 0, none⟩) l.length cap) l) {m : Nat} (hm : m ≤ l.length) : Owns w base e enc k (.slice (some ⟨g, 0, none⟩) m cap) (l.take m) := by
  have hlen : (l.take m).length = m := by simp; omega
  rcases h.2 with ⟨h', _⟩ | ⟨g', cap', cur, h', hb, hg, hn, hcm, hcs, ht⟩
  · simp at h'
  · injection h' with h1 _ h3
    injection h1 with h1
    injection h1 with h1
    subst h1 h3
    refine ⟨by rw [flat_length hk], .inr ⟨g, cap, cur, by rw [hlen], hb, hg, by omega, hcm, hcs, ?_⟩⟩
    have e1 : (l.take m).flatMap enc = (l.flatMap enc).take (m * k) := by
      have e2 : l.flatMap enc = (l.take m).flatMap enc ++ (l.drop m).flatMap enc := by rw [← List.flatMap_append, List.take_append_drop]
      rw [e2, List.take_left' (by rw [flat_length hk, hlen])]
    rw [e1, ← ht, List.take_take, hlen]
    congr 1
    have : m * k ≤ l.length * k := Nat.mul_le_mul_right k hm
    omega
end

theorem flat_set4 {α : Type} {enc : α → List Value} (hk : ∀ x, (enc x).length = 4) : ∀ (l : List α) (i : Nat) (x : α) (a0 a1 a2 a3 : Value), i < l.length → enc x = [a0, a1, a2, a3] →
    ((((l.flatMap enc).set (i * 4) a0).set (i * 4 + 1) a1).set (i * 4 + 2) a2).set (i * 4 + 3) a3 = (l.set i x).flatMap enc
  | y :: l, 0, x, a0, a1, a2, a3, _, hx => by
    obtain ⟨b0, b1, b2, b3, hy⟩ : ∃ b0 b1 b2 b3, enc y = [b0, b1, b2, b3] := by
      have := hk y
      match h : enc y, this with
      | [b0, b1, b2, b3], _ => exact ⟨b0, b1, b2, b3, rfl⟩
    rw [List.set_cons_zero, List.flatMap_cons, List.flatMap_cons, hy, hx]
    simp
  | y :: l, i + 1, x, a0, a1, a2, a3, hi, hx => by
    have ih := flat_set4 hk l i x a0 a1 a2 a3 (by simpa using hi) hx
    rw [List.set_cons_succ, List.flatMap_cons, List.flatMap_cons, ← ih]
    have e0 : (i + 1) * 4 = (enc y).length + i * 4 := by rw [hk]; omega
    rw [e0, Nat.add_assoc _ _ 1, Nat.add_assoc _ _ 2, Nat.add_assoc _ _ 3]
    rw [List.set_append_right _ _ (by omega), Nat.add_sub_cancel_left, List.set_append_right _ _ (by omega), Nat.add_sub_cancel_left, List.set_append_right _ _ (by omega), Nat.add_sub_cancel_left, List.set_append_right _ _ (by omega), Nat.add_sub_cancel_left]
theorem Owns.store4 {α : Type} {w : World} {base : Nat} {e : TypeId} {enc : α → List Value} {g cap : Nat} {l : List α} (hk : ∀ x, (enc x).length = 4) (h : Owns w base e enc 4 (.slice (some ⟨g, 0, none⟩) l.length cap) l) {i : Nat} (hi : i < l.length) {x : α} {a0 a1 a2 a3 : Value} (hx : enc x = [a0, a1, a2, a3]) :
    Owns ((((w.setCell ⟨g, i * 4, none⟩ a0).setCell ⟨g, i * 4 + 1, none⟩ a1).setCell ⟨g, i * 4 + 2, none⟩ a2).setCell ⟨g, i * 4 + 3, none⟩ a3) base e enc 4 (.slice (some ⟨g, 0, none⟩) l.length cap) (l.set i x) ∧
    w.grownBy ((((w.setCell ⟨g, i * 4, none⟩ a0).setCell ⟨g, i * 4 + 1, none⟩ a1).setCell ⟨g, i * 4 + 2, none⟩ a2).setCell ⟨g, i * 4 + 3, none⟩ a3) (some g) := by
  obtain ⟨h0, g0⟩ := World.ownsRow.stored h (i * 4) a0
  obtain ⟨h1, g1⟩ := World.ownsRow.stored h0 (i * 4 + 1) a1
  obtain ⟨h2, g2⟩ := World.ownsRow.stored h1 (i * 4 + 2) a2
  obtain ⟨h3, g3⟩ := World.ownsRow.stored h2 (i * 4 + 3) a3
  refine ⟨?_, grown_trans (grown_trans (grown_trans g0 g1) g2) g3⟩
  rw [flat_set4 hk l i x a0 a1 a2 a3 hi hx] at h3
  unfold Owns
  rw [List.length_set]
  exact h3

/-- clear of a cut of a row of structs. -/
theorem run_clear_cells {P : Program} {n : Nat} (w : World) (t e ty : TypeId) (z : Value) (ht : P.underlying t = some (.slice e)) (hv : ∀ w, (zeroValue e).run P w = .ok z w) (hz1 : ∀ u ∈ (Builtin.zeroCells z.cells n).toList, u.oneCell' = true) (b o c : Nat) (hn : 0 < n)
    (hc : ∀ j, j < (Builtin.zeroCells z.cells n).toList.length → (w.cell? ⟨b, o + j, none⟩).isSome = true) (hf : ∀ j, j < (Builtin.zeroCells z.cells n).toList.length → w.frozen? ⟨b, o + j, none⟩ = false) :
    (Builtin.clear_ #[t] ty #[.slice (some ⟨b, o, none⟩) n c]).run P w = .ok (.tuple #[]) (w.setCells b o (Builtin.zeroCells z.cells n).toList) := by
  have hst := run_storeCells_cells (P := P) b o (Builtin.zeroCells z.cells n).toList 0 w (by simpa using hc) (by simpa using hf) hz1
  simp only [Nat.add_zero] at hst
  obtain ⟨m, rfl⟩ : ∃ m, n = m + 1 := ⟨n - 1, by omega⟩
  simp [Builtin.clear_, run_underlying ht, hv, hst]
end Go.Proofs.Ytoleifehijccmaa
