/-
  Dropping the adjacent equals of a sorted list of identifiers.
-/
import Derived.Test.YtoleifehijccmaaSearch
namespace Go.Proofs.Ytoleifehijccmaa
set_option linter.unusedVariables false
open Go.RowKit

/-- The first m without those that equal the one ahead of them. -/
def ddTo (l : List Ident) : Nat → List Ident
  | 0 => []
  | m + 1 => match l[m]? with
    | none => ddTo l m
    | some x => if m = 0 then [x] else match l[m - 1]? with
      | none => ddTo l m
      | some y => if cmpId x y = 0 then ddTo l m else ddTo l m ++ [x]
theorem ddTo_one {l : List Ident} (h : 0 < l.length) : ddTo l 1 = [l[0]] := by
  simp [ddTo, List.getElem?_eq_getElem h]
theorem ddTo_same {l : List Ident} {m : Nat} (h : m < l.length) (h0 : 0 < m) (hc : cmpId l[m] l[m - 1] = 0) : ddTo l (m + 1) = ddTo l m := by
  have h1 : m - 1 < l.length := by omega
  rw [ddTo, List.getElem?_eq_getElem h]
  simp only [List.getElem?_eq_getElem h1]
  rw [if_neg (by omega), if_pos hc]
theorem ddTo_more {l : List Ident} {m : Nat} (h : m < l.length) (h0 : 0 < m) (hc : ¬ cmpId l[m] l[m - 1] = 0) : ddTo l (m + 1) = ddTo l m ++ [l[m]] := by
  have h1 : m - 1 < l.length := by omega
  rw [ddTo, List.getElem?_eq_getElem h]
  simp only [List.getElem?_eq_getElem h1]
  rw [if_neg (by omega), if_neg hc]
theorem ddTo_take {l : List Ident} : ∀ {m : Nat}, m ≤ l.length → (∀ k (h : k < l.length), 0 < k → k < m → ¬ cmpId l[k] l[k - 1] = 0) → ddTo l m = l.take m
  | 0, _, _ => by simp [ddTo]
  | m + 1, hm, h => by
    have ih := ddTo_take (m := m) (by omega) (fun k hk h0 hl => h k hk h0 (by omega))
    rw [List.take_succ_eq_append_getElem (by omega : m < l.length)]
    rcases Nat.eq_zero_or_pos m with rfl | h0
    · rw [ddTo_one hm]; simp
    · rw [ddTo_more (by omega) h0 (h m (by omega) h0 (by omega)), ih]
theorem ddTo_len {l : List Ident} : ∀ m, (ddTo l m).length ≤ m
  | 0 => by simp [ddTo]
  | m + 1 => by
    have ih := ddTo_len (l := l) m
    unfold ddTo
    split
    · omega
    · split
      · simp
      · split
        · omega
        · split
          · omega
          · simp; omega

def dedup (l : List Ident) : List Ident := ddTo l l.length
/-- Sorted, equals allowed. -/
def Weak (l : List Ident) : Prop := l.Pairwise (fun a b => cmpId a b ≤ 0)

theorem ddTo_spec {l : List Ident} (hs : Weak l) (hv : AllValid l) : ∀ {m : Nat}, m ≤ l.length →
    Asc (ddTo l m) ∧ (∀ x, x ∈ ddTo l m ↔ x ∈ l.take m) ∧ (∀ h : m - 1 < l.length, 0 < m → ∃ i, ddTo l m = i ++ [l[m - 1]])
  | 0, _ => ⟨by simp [ddTo, Asc], by simp [ddTo], fun _ h => absurd h (by omega)⟩
  | m + 1, hm => by
    obtain ⟨ih1, ih2, ih3⟩ := ddTo_spec hs hv (m := m) (by omega)
    have hml : m < l.length := by omega
    rw [List.take_succ_eq_append_getElem hml]
    rcases Nat.eq_zero_or_pos m with rfl | h0
    · rw [ddTo_one hml]
      exact ⟨by simp [Asc], by simp, fun h _ => ⟨[], rfl⟩⟩
    · have h1 : m - 1 < l.length := by omega
      obtain ⟨i, hi⟩ := ih3 h1 h0
      by_cases hc : cmpId l[m] l[m - 1] = 0
      · have heq : l[m] = l[m - 1] := cmpId_eq (hv _ (List.getElem_mem hml)) (hv _ (List.getElem_mem h1)) hc
        rw [ddTo_same hml h0 hc]
        refine ⟨ih1, fun x => ?_, fun _ _ => ⟨i, by simpa [heq] using hi⟩⟩
        rw [ih2, List.mem_append, List.mem_singleton]
        refine ⟨.inl, fun h => h.elim id fun h => ?_⟩
        rw [h, heq]
        have : l[m - 1] ∈ ddTo l m := by rw [hi]; simp
        exact (ih2 _).1 this
      · rw [ddTo_more hml h0 hc]
        refine ⟨?_, fun x => by rw [List.mem_append, List.mem_append, ih2], fun _ _ => ⟨ddTo l m, rfl⟩⟩
        have hle : cmpId l[m - 1] l[m] ≤ 0 := List.pairwise_iff_getElem.1 hs (m - 1) m h1 hml (by omega)
        have hlt : cmpId l[m - 1] l[m] < 0 := by
          have := cmpId_ok.anti l[m - 1] l[m]
          omega
        refine List.pairwise_append.2 ⟨ih1, by simp, fun a ha b hb => ?_⟩
        rw [List.mem_singleton] at hb
        subst hb
        rw [hi] at ha ih1
        rcases List.mem_append.1 ha with h | h
        · have h2 : cmpId a l[m - 1] < 0 := (List.pairwise_append.1 ih1).2.2 a h _ (by simp)
          exact cmpId_ok.lt_le h2 (by omega)
        · rw [List.mem_singleton] at h
          rw [h]; exact hlt
theorem dedup_short {l : List Ident} (h : l.length < 2) : dedup l = l := by
  match l, h with
  | [], _ => rfl
  | [x], _ => exact ddTo_one (by simp)
theorem dedup_asc {l : List Ident} (hs : Weak l) (hv : AllValid l) : Asc (dedup l) := (ddTo_spec hs hv (Nat.le_refl _)).1
theorem dedup_mem {l : List Ident} (hs : Weak l) (hv : AllValid l) (x : Ident) : x ∈ dedup l ↔ x ∈ l := by
  have := (ddTo_spec hs hv (Nat.le_refl _)).2.1 x
  rwa [List.take_length] at this
end Go.Proofs.Ytoleifehijccmaa
