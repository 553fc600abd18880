import Derived.Test.YtlpgmdhnjckplaaGreatSup
/-
  Deletions of records (P18.3), in plain words: the sources of the records, in order, and a change for each that is wanted.
-/
import Derived.Test.YtlpgmdhnjckplaaGreatR18
set_option linter.unusedVariables false
namespace Go.Proofs.YtlpgmdhnjckplaaGreat
open Go.RowKit

/-- The sources of the records of the first n tables. -/
def allSrc (rt : List RTab) : Nat → List Src
  | 0 => []
  | n + 1 => allSrc rt n ++ (recsI rt n).map (srcR n)
theorem recsI_get {rt : List RTab} {i : Nat} (h : i < rt.length) : recsI rt i = rt[i].recs := by
  unfold recsI
  rw [List.getElem?_eq_getElem h]
def gtOrEq (a b : Src) : Prop := lessS a b ∨ a = b
/-- Two lists in order, with the same members as often, are one. -/
theorem sorted_one : ∀ {l l' : List Src}, l.Perm l' → l.Pairwise (fun a b => lessS a b ∨ a = b) → l'.Pairwise (fun a b => lessS a b ∨ a = b) → l = l'
  | [], l', hp, _, _ => by rw [List.nil_perm.1 hp]
  | x :: l, [], hp, _, _ => by have := hp.length_eq; simp at this
  | x :: l, y :: l', hp, h1, h2 => by
    have hxy : x = y := by
      have hx : x ∈ y :: l' := hp.mem_iff.1 (by simp)
      have hy : y ∈ x :: l := hp.mem_iff.2 (by simp)
      rcases List.mem_cons.1 hx with h | h
      · exact h
      · rcases List.mem_cons.1 hy with k | k
        · exact k.symm
        · rcases (List.pairwise_cons.1 h2).1 x h with a | a
          · rcases (List.pairwise_cons.1 h1).1 y k with b | b
            · exact absurd (lessS_trans a b) (lessS_irrefl y)
            · exact b
          · exact a.symm
    subst hxy
    rw [sorted_one (List.Perm.cons_inv hp) (List.pairwise_cons.1 h1).2 (List.pairwise_cons.1 h2).2]
/-- The wanted sources. -/
noncomputable def wantE (rt : List RTab) (gone : List Src) : List Src := (allSrc rt rt.length).filter fun s => decide (s ∈ gone)
/-- The key of the record of a source. -/
def keyS (rt : List RTab) (s : Src) : Val := match (recsI rt s.tab.toNat).find? (fun r => headS r == s.seq) with
  | some r => headV r
  | none => ⟨0, 0, ⟨#[]⟩⟩
def delC (rt : List RTab) (seq day : Int) (i : Nat) (s : Src) : Chg := ⟨3, seq + i, day, s.tab, none, 0, [], keyS rt s, 0, ⟨0, 0, ⟨#[]⟩⟩⟩
def delL (rt : List RTab) (seq day : Int) (l : List Src) : List Chg := l.mapIdx (delC rt seq day)
theorem delL_len (rt : List RTab) (seq day : Int) (l : List Src) : (delL rt seq day l).length = l.length := by simp [delL]
theorem delL_succ (rt : List RTab) (seq day : Int) {l : List Src} {i : Nat} (h : i < l.length) : delL rt seq day (l.take (i + 1)) = delL rt seq day (l.take i) ++ [delC rt seq day i l[i]] := by
  unfold delL
  rw [List.take_succ_eq_append_getElem h, List.mapIdx_append]
  simp [Nat.min_eq_left (Nat.le_of_lt h)]
theorem delL_snoc (rt : List RTab) (seq day : Int) (l : List Src) (s : Src) : delL rt seq day (l ++ [s]) = delL rt seq day l ++ [delC rt seq day l.length s] := by
  unfold delL
  rw [List.mapIdx_append]
  simp
/-- The deletions are made. -/
structure DelOk (ts : List Tab) (rt : List RTab) (gone : List Src) (seq day : Int) : Prop where
  tabs : RTabsOk ts rt
  dayOk : 0 ≤ day ∧ day ≤ 1048576
  seqOk : 1 ≤ seq ∧ seq ≤ 1073741824
  fit : seq + (wantE rt gone).length ≤ 1073741825
end Go.Proofs.YtlpgmdhnjckplaaGreat
