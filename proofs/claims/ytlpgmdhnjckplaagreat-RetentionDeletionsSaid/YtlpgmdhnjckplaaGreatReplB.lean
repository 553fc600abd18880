import Derived.Test.YtlpgmdhnjckplaaGreatSup
/-
  Replayed tables: the positions of cells lie in their range.
-/
import Derived.Test.YtlpgmdhnjckplaaGreatR18
set_option linter.unusedVariables false
namespace Go.Proofs.YtlpgmdhnjckplaaGreat
open Go.RowKit

/-- The positions of a list of records. -/
def SeqIn (l : List PRec) : Prop := ∀ r ∈ l, ∀ s ∈ r.2.1, (1 : Int) ≤ s ∧ s ≤ 1073741824
theorem SeqIn.cut {l : List PRec} (h : SeqIn l) (j : Nat) : SeqIn (cutP l j) := fun r hr => by
  unfold cutP at hr
  rcases List.mem_append.1 hr with h1 | h1
  · exact h r (List.mem_of_mem_take h1)
  · exact h r (List.mem_of_mem_drop h1)
theorem SeqIn.ins {l : List PRec} (h : SeqIn l) {x : PRec} (hx : ∀ s ∈ x.2.1, (1 : Int) ≤ s ∧ s ≤ 1073741824) : SeqIn (insP l x) := fun r hr => by
  unfold insP at hr
  rcases List.mem_append.1 hr with h1 | h1
  · rcases List.mem_append.1 h1 with h2 | h2
    · exact h r (List.mem_of_mem_take h2)
    · rw [List.mem_singleton.1 h2]; exact hx
  · exact h r (List.mem_of_mem_drop h1)
theorem SeqIn.upd {l : List PRec} (h : SeqIn l) (j : Nat) {x : Chg} (hx : (1 : Int) ≤ x.seq ∧ x.seq ≤ 1073741824) : SeqIn (updP l j x) := by
  unfold updP
  split
  · rename_i r hr
    intro y hy s hs
    rcases List.mem_or_eq_of_mem_set hy with h1 | h1
    · exact h y h1 s hs
    · subst h1
      rcases List.mem_or_eq_of_mem_set hs with h2 | h2
      · exact h r (List.mem_of_getElem? hr) s h2
      · rw [h2]; exact hx
  · exact h
theorem SeqIn.new {x : Chg} (hx : (1 : Int) ≤ x.seq ∧ x.seq ≤ 1073741824) : ∀ s ∈ (newP x).2.1, (1 : Int) ≤ s ∧ s ≤ 1073741824 := fun s hs => by
  rw [(List.mem_replicate.1 hs).2]; exact hx
theorem SeqIn.perf {l : List PRec} (h : SeqIn l) {x : Chg} (hx : (1 : Int) ≤ x.seq ∧ x.seq ≤ 1073741824) : SeqIn (perfL l x) := by
  unfold perfL
  split
  · split
    · exact (h.cut _).ins (SeqIn.new hx)
    · split
      · exact h
      · exact h.ins (SeqIn.new hx)
  · split
    · exact h
    · split
      · exact h.upd _ hx
      · exact h.cut _
theorem SeqIn.tab {pl : List (List PRec)} (h : ∀ l ∈ pl, SeqIn l) (k : Int) : SeqIn (tabP pl k) := by
  unfold tabP
  split
  · rename_i l hl
    exact h l (List.mem_of_getElem? hl)
  · intro r hr
    cases hr
theorem SeqIn.performE {pl : List (List PRec)} (h : ∀ l ∈ pl, SeqIn l) {x : Chg} (hx : (1 : Int) ≤ x.seq ∧ x.seq ≤ 1073741824) : ∀ l ∈ performE pl x, SeqIn l := fun l hl => by
  unfold Go.Proofs.YtlpgmdhnjckplaaGreat.performE at hl
  rcases List.mem_or_eq_of_mem_set hl with h1 | h1
  · exact h l h1
  · rw [h1]; exact (SeqIn.tab h _).perf hx
theorem replayE_seq (ts : List Tab) (l : List Chg) : ∀ t ∈ replayE ts l, SeqIn t := by
  have key : ∀ (l : List Chg) (pl : List (List PRec)), (∀ t ∈ pl, SeqIn t) → ∀ t ∈ l.foldl (fun pl x => if formE ts x = 0 then performE pl x else pl) pl, SeqIn t := by
    intro l
    induction l with
    | nil => exact fun pl h => h
    | cons x l ih =>
      intro pl h
      rw [List.foldl_cons]
      refine ih _ ?_
      split
      · rename_i hz
        obtain ⟨k, hin⟩ := formE_in hz
        have hs := hin.seq
        rw [withinB, Bool.and_eq_true, decide_eq_true_iff, decide_eq_true_iff] at hs
        exact SeqIn.performE h hs
      · exact h
  refine key l _ fun t ht r hr => ?_
  rw [(List.mem_replicate.1 ht).2] at hr
  cases hr
/-- .. of the tables in memory. -/
theorem seqs_in {ts : List Tab} {l : List Chg} {rt : List RTab} (h : rt.map pureT = replayE ts l) : ∀ t ∈ rt, ∀ r ∈ t.recs, ∀ s ∈ r.seq, (1 : Int) ≤ s ∧ s ≤ 1073741824 := fun t ht r hr s hs =>
  replayE_seq ts l (pureT t) (by rw [← h]; exact List.mem_map_of_mem ht) (pureR r) (List.mem_map_of_mem hr) s hs
end Go.Proofs.YtlpgmdhnjckplaaGreat
