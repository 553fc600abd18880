/-
  Declarations of this seat's older parts that this claim wants besides.
-/
import Derived.Test.YtlpgmdhnjckplaaGreatR1
import Derived.Test.YtlpgmdhnjckplaaGreatR2
import Derived.Test.YtlpgmdhnjckplaaGreatR3
import Derived.Test.YtlpgmdhnjckplaaGreatR4
import Derived.Test.YtlpgmdhnjckplaaGreatR5
import Derived.Test.YtlpgmdhnjckplaaGreatR6
import Derived.Test.YtlpgmdhnjckplaaGreatR7
import Derived.Test.YtlpgmdhnjckplaaGreatR8
import Derived.Test.YtlpgmdhnjckplaaGreatR9
import Derived.Test.YtlpgmdhnjckplaaGreatR10
import Derived.Test.YtlpgmdhnjckplaaGreatR11
import Derived.Test.YtlpgmdhnjckplaaGreatR12
set_option linter.unusedVariables false
set_option linter.unusedSimpArgs false
namespace Go.Proofs.YtlpgmdhnjckplaaGreat
open Go.RowKit
theorem Src.cells2 {w : World} {b o : Nat} {x : Src} (h : ∀ j u, x.cells[j]? = some u → w.cell? ⟨b, o + j, none⟩ = some u) :
    w.cell? ⟨b, o, none⟩ = some (.int .i64 x.tab) ∧ w.cell? ⟨b, o + 1, none⟩ = some (.int .i64 x.seq) := ⟨h 0 _ rfl, h 1 _ rfl⟩
set_option maxRecDepth 100000 in
theorem ref15_Less (a b : Src) (w : World) {r : Bool} (hr : decide (lessS a b) = r) :
    Calls Tryz.prog 103 #[.agg #[.int .i64 a.tab, .int .i64 a.seq], .agg #[.int .i64 b.tab, .int .i64 b.seq]] w fun e w' => e = .returned (.bool r) ∧ Ext w w' := by
  subst hr
  cases h1 : decide (a.tab < b.tab)
  · cases h2 : (a.tab == b.tab)
    · have h2' : a.tab ≠ b.tab := by simpa using h2
      go_enter Tryz.func103, Tryz.ntmps103
      go_wp2_with fail
      go_ret
      exact ⟨ret_bool (by symm; rw [decide_eq_false_iff_not]; unfold lessS; have := of_decide_eq_false h1; omega), by exact extA⟩
    · have h2' : a.tab = b.tab := by simpa using h2
      have H2 := Lib.hid h2'
      clear h2'
      cases h3 : decide (a.seq < b.seq)
      · go_enter Tryz.func103, Tryz.ntmps103
        go_wp2_with fail
        go_ret
        exact ⟨ret_bool (by symm; rw [decide_eq_false_iff_not]; unfold lessS; have := of_decide_eq_false h1; have := of_decide_eq_false h3; omega), by exact extA⟩
      · go_enter Tryz.func103, Tryz.ntmps103
        go_wp2_with fail
        go_ret
        exact ⟨ret_bool (by symm; rw [decide_eq_true_iff]; exact .inr ⟨H2.out, of_decide_eq_true h3⟩), by exact extA⟩
  · go_enter Tryz.func103, Tryz.ntmps103
    go_wp2_with fail
    go_ret
    exact ⟨ret_bool (by symm; rw [decide_eq_true_iff]; exact .inl (of_decide_eq_true h1)), by exact extA⟩
theorem rtab_one : ∀ x : RTab, ∀ u ∈ RTab.cells x, u.oneCell' = true := by
  intro x u hu
  simp only [RTab.cells, List.mem_cons, List.not_mem_nil, or_false] at hu
  rcases hu with rfl <;> rfl
end Go.Proofs.YtlpgmdhnjckplaaGreat
