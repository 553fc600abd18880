/-
  slices.Clone over identifiers.
-/
import Derived.Test.YtoleifehijccmaaCompact
namespace Go.Proofs.Ytoleifehijccmaa
set_option linter.unusedVariables false
open Go.RowKit

set_option maxRecDepth 100000 in
set_option maxHeartbeats 1000000 in
theorem clone_any (b o c : Nat) (l : List Ident) (w : World) (hl : SliceIs w w.heap.size Ident.cells 4 (some ⟨b, o, none⟩) l) (hn : l.length ≤ 1000000) :
    Calls Try.prog 66 #[.slice (some ⟨b, o, none⟩) l.length c] w fun e w' =>
      (∃ v, e = .returned v ∧ Owns w' w.heap.size 27 Ident.cells 4 v l) ∧ Below w.heap.size w w' := by
  obtain ⟨i0, hi0, hz0, hz1, hz2⟩ := info_parts infoIdent
  go_enter Try.func66, Try.ntmps66
  have hnil : (binOp .eql 31 (.slice (some ⟨b, o, none⟩) l.length c) (.slice none 0 0)).run Try.prog w = .ok (.bool false) w := Lib.run_eql_slice_nil w 31 27 (some ⟨b, o, none⟩) l.length c 0 0 Try.underlying31
  go_wp2_with ((at_builtin; refine wpList_append_list _ rfl (.tmp 5) (.tmp 6) 31 rfl 27 i0 _ Ident.cells 4 48 Try.underlying31 hi0 hz0 hz1 hz2 rfl (by omega) ident_len ident_one w.heap.size (.slice (some ⟨w.heap.size, 0, none⟩) 0 0) [] rfl (Owns.empty (Blk.new' rfl) (Nat.le_refl _)) _ _ _ l rfl rfl (hl.next (by repeat (first | with_reducible exact Below.refl _ _ | with_reducible assumption | (with_reducible refine Below.setCell ?_ ?_ _; rotate_left; focus (first | exact Nat.le_refl _ | exact Nat.le_add_right _ _ | (simp; done) | (simp; omega) | omega)) | (with_reducible refine Below.alloc ?_ ?_ _; rotate_left; focus (first | exact Nat.le_refl _ | exact Nat.le_add_right _ _ | (simp; done) | (simp; omega) | omega)) | with_reducible refine Below.drew ?_ | with_reducible refine below_drewN ?_ _ | (with_reducible refine below_nextN ?_ (by with_reducible assumption) ?_; rotate_left; focus (first | exact Nat.le_refl _ | exact Nat.le_add_right _ _ | (simp; done) | (simp; omega) | omega))))) (by simp; omega) (by simp [maxLen]; omega) (by simp) ?_; intro v' w1 hown' hg' hat'; have HOWN' := Lib.hid hown'; clear hown'; have hbel : Below w.heap.size w w1 := Below.grown (by repeat (first | with_reducible exact Below.refl _ _ | with_reducible assumption | (with_reducible refine Below.setCell ?_ ?_ _; rotate_left; focus (first | exact Nat.le_refl _ | exact Nat.le_add_right _ _ | (simp; done) | (simp; omega) | omega)) | (with_reducible refine Below.alloc ?_ ?_ _; rotate_left; focus (first | exact Nat.le_refl _ | exact Nat.le_add_right _ _ | (simp; done) | (simp; omega) | omega)) | with_reducible refine Below.drew ?_ | with_reducible refine below_drewN ?_ _ | (with_reducible refine below_nextN ?_ (by with_reducible assumption) ?_; rotate_left; focus (first | exact Nat.le_refl _ | exact Nat.le_add_right _ _ | (simp; done) | (simp; omega) | omega)))) hg' (by simp) (own_row (Nat.le_refl _))))
  go_ret
  exact ⟨⟨_, rfl, by simpa using HOWN'.out⟩, hbel⟩
end Go.Proofs.Ytoleifehijccmaa
