/-
  Plain mathematics for IdentityGrows: subjects grow with further events and with earlier positions; they contain every later component.
-/
import Derived.Test.YtoleifehijccmaaReach
namespace Go.Proofs.Ytoleifehijccmaa
set_option linter.unusedVariables false

theorem directB_same {l : List Link} {x : Link} {i : Nat} {s s' : Int} (hx : x ∈ l) (h : ∀ y ∈ l, y.seq ≤ s ↔ y.seq ≤ s') : directB l x i s = directB l x i s' := by
  unfold directB
  have h1 : decide (x.seq ≤ s) = decide (x.seq ≤ s') := by simp [h x hx]
  have h2 : (l.drop (i + 1)).takeWhile (fun y => decide (y.seq ≤ s)) = (l.drop (i + 1)).takeWhile (fun y => decide (y.seq ≤ s')) := by
    have : ∀ (m : List Link), (∀ y ∈ m, y ∈ l) → m.takeWhile (fun y => decide (y.seq ≤ s)) = m.takeWhile (fun y => decide (y.seq ≤ s')) := by
      intro m hm
      induction m with
      | nil => rfl
      | cons z m ih =>
        have hz := h z (hm z (by simp))
        have ih := ih (fun y hy => hm y (by simp [hy]))
        by_cases h3 : z.seq ≤ s
        · rw [List.takeWhile_cons_of_pos (by simpa using h3), List.takeWhile_cons_of_pos (by simpa using hz.1 h3), ih]
        · rw [List.takeWhile_cons_of_neg (by simpa using h3), List.takeWhile_cons_of_neg (by simpa using fun h4 => h3 (hz.2 h4))]
    exact this _ (fun y hy => List.mem_of_mem_drop hy)
  rw [h1, h2]
theorem edge_same {l : List Link} {s s' : Int} {u v : Ident} (h : ∀ y ∈ l, y.seq ≤ s ↔ y.seq ≤ s') : EdgeAt l s u v → EdgeAt l s' u v := by
  rintro ⟨i, hi, hd, h2⟩
  exact ⟨i, hi, by rw [← directB_same (List.getElem_mem hi) h]; exact hd, h2⟩
theorem Reach.same {l : List Link} {s s' : Int} {u v : Ident} (h : ∀ y ∈ l, y.seq ≤ s ↔ y.seq ≤ s') (hr : Reach l s u v) : Reach l s' u v := by
  induction hr with
  | refl => exact .refl
  | step _ e ih => exact .step ih (edge_same h e)
/-- The last event up to a position. -/
theorem last_event (l : List Link) (hp : l.Pairwise (fun x y => x.seq < y.seq)) (s : Int) : (∀ y ∈ l, ¬ y.seq ≤ s) ∨ ∃ x ∈ l, x.seq ≤ s ∧ ∀ y ∈ l, y.seq ≤ s ↔ y.seq ≤ x.seq := by
  induction l with
  | nil => exact .inl (by simp)
  | cons z l ih =>
    have hp' := List.pairwise_cons.1 hp
    rcases ih hp'.2 with h | ⟨x, hx, hxs, h⟩
    · by_cases hz : z.seq ≤ s
      · refine .inr ⟨z, by simp, hz, fun y hy => ?_⟩
        rcases List.mem_cons.1 hy with rfl | hy
        · exact ⟨fun _ => Int.le_refl _, fun _ => hz⟩
        · have h1 := h y hy
          have h2 := hp'.1 y hy
          omega
      · refine .inl fun y hy => ?_
        rcases List.mem_cons.1 hy with rfl | hy
        · exact hz
        · exact h y hy
    · refine .inr ⟨x, by simp [hx], hxs, fun y hy => ?_⟩
      rcases List.mem_cons.1 hy with rfl | hy
      · have := hp'.1 x hx
        omega
      · exact h y hy
/-- Each component from a position on is in the subject. -/
theorem reach_in {l : List Link} (hp : l.Pairwise (fun x y => x.seq < y.seq)) {f s : Int} (hfs : f ≤ s) {u v : Ident} (h : Reach l s u v) : InSubject l u f v := by
  rcases last_event l hp s with h1 | ⟨x, hx, hxs, h1⟩
  · exact .inl (h.same fun y hy => ⟨fun h2 => absurd h2 (h1 y hy), fun h2 => absurd (by omega) (h1 y hy)⟩)
  · by_cases hf : x.seq ≤ f
    · refine .inl (h.same fun y hy => ?_)
      have := h1 y hy
      omega
    · exact .inr ⟨x, hx, by omega, h.same h1⟩
theorem subject_earlier {l : List Link} (hp : l.Pairwise (fun x y => x.seq < y.seq)) {f f' : Int} (hff : f' ≤ f) {u v : Ident} (h : InSubject l u f v) : InSubject l u f' v := by
  rcases h with h | ⟨x, hx, hxf, h⟩
  · exact reach_in hp hff h
  · exact .inr ⟨x, hx, by omega, h⟩
theorem edge_take {l : List Link} {n : Nat} {s : Int} (hn : ∀ i (h : i < l.length), n ≤ i → s < l[i].seq) {u v : Ident} (h : EdgeAt (l.take n) s u v) : EdgeAt l s u v := by
  obtain ⟨i, hi, hd, h2⟩ := h
  have hil : i < l.length := by simp at hi; omega
  have hin : i < n := by simp at hi; omega
  have e : (l.take n)[i] = l[i] := List.getElem_take
  refine ⟨i, hil, ?_, by rw [e] at h2; exact h2⟩
  rw [e] at hd
  have key : (l.drop (i + 1)).takeWhile (fun y => decide (y.seq ≤ s)) = ((l.take n).drop (i + 1)).takeWhile (fun y => decide (y.seq ≤ s)) := by
    have e1 : l.drop (i + 1) = (l.take n).drop (i + 1) ++ l.drop n := by
      conv => lhs; rw [← List.take_append_drop n l]
      rw [List.drop_append]
      rcases Nat.lt_or_ge n l.length with h3 | h3
      · rw [List.length_take_of_le (by omega), show i + 1 - n = 0 by omega]; simp
      · rw [List.drop_eq_nil_of_le h3]; simp
    have e2 : (l.drop n).takeWhile (fun y => decide (y.seq ≤ s)) = [] := by
      rcases Nat.lt_or_ge n l.length with h3 | h3
      · rw [List.drop_eq_getElem_cons h3, List.takeWhile_cons_of_neg]
        have := hn n h3 (Nat.le_refl _)
        simp; omega
      · rw [List.drop_eq_nil_of_le h3]; rfl
    rw [e1, List.takeWhile_append]
    split
    · rename_i h4
      rw [e2, List.append_nil]
      exact (List.IsPrefix.eq_of_length (List.takeWhile_prefix _) h4).symm
    · rfl
  unfold directB at hd ⊢
  rw [key]
  exact hd
theorem subject_take {l : List Link} (hp : l.Pairwise (fun x y => x.seq < y.seq)) {n : Nat} {f : Int} (hn : ∀ i (h : i < l.length), n ≤ i → f < l[i].seq) {u v : Ident} (h : InSubject (l.take n) u f v) : InSubject l u f v := by
  have lift : ∀ s, (∀ i (h : i < l.length), n ≤ i → s < l[i].seq) → ∀ {v}, Reach (l.take n) s u v → Reach l s u v := by
    intro s hs v hr
    induction hr with
    | refl => exact .refl
    | step _ e ih => exact .step ih (edge_take hs e)
  rcases h with h | ⟨x, hx, hxf, h⟩
  · exact .inl (lift f hn h)
  · refine .inr ⟨x, List.mem_of_mem_take hx, hxf, lift x.seq (fun i hi hni => ?_) h⟩
    obtain ⟨j, hj, rfl⟩ := List.getElem_of_mem hx
    rw [List.getElem_take]
    exact List.pairwise_iff_getElem.1 hp j i (by simp at hj; omega) hi (by simp at hj; omega)
end Go.Proofs.Ytoleifehijccmaa
