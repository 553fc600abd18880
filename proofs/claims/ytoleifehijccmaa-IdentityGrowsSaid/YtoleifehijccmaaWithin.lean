/-
  The laws of layer 16: within: whether all identifiers of a list are in another one.
-/
import Derived.Test.YtoleifehijccmaaLinks
namespace Go.Proofs.Ytoleifehijccmaa
set_option linter.unusedVariables false
open Go.RowKit

set_option maxRecDepth 100000 in
set_option maxHeartbeats 1000000 in
theorem within_yes (A A' : Option Addr) (c c' : Nat) (l l' : List Ident) (w : World) (hl : SliceIs w w.heap.size Ident.cells 4 A l) (hl' : SliceIs w w.heap.size Ident.cells 4 A' l') (hn : l.length ≤ 1000000) (hn' : l'.length ≤ 1000000) (hin : ∀ x ∈ l, x ∈ l') :
    Calls Try.prog 20 #[.slice A l.length c, .slice A' l'.length c'] w fun e w' => e = .returned (.bool true) ∧ Below w.heap.size w w' := by
  have HIN := Lib.hid hin
  have HL' := Lib.hid hl'
  clear hin hl'
  go_enter Try.func20, Try.ntmps20
  go_wp2
  go_loopw [5] (fun i wr => ∃ m : Nat, m ≤ l.length ∧ i = .int .i64 m ∧ Below w.heap.size w wr) (fun i _ => l.length - (intOf i).toNat)
  case atStart => exact ⟨0, Nat.zero_le _, rfl, by repeat (first | with_reducible exact Below.refl _ _ | with_reducible assumption | (with_reducible refine Below.setCell ?_ ?_ _; rotate_left; focus (first | exact Nat.le_refl _ | exact Nat.le_add_right _ _ | (simp; done) | (simp; omega) | omega)) | (with_reducible refine Below.alloc ?_ ?_ _; rotate_left; focus (first | exact Nat.le_refl _ | exact Nat.le_add_right _ _ | (simp; done) | (simp; omega) | omega)) | with_reducible refine Below.drew ?_ | with_reducible refine below_drewN ?_ _ | (with_reducible refine below_nextN ?_ (by with_reducible assumption) ?_; rotate_left; focus (first | exact Nat.le_refl _ | exact Nat.le_add_right _ _ | (simp; done) | (simp; omega) | omega)))⟩
  case round =>
    obtain ⟨m, hm, rfl, hbw⟩ := hrel
    by_cases hlt : m < l.length
    · obtain ⟨b, o, rfl, hb, hc⟩ := (hl.below hbw).get hlt
      obtain ⟨h0, h1, h2, h3⟩ := Ident.cells4 hc
      clear hc
      have hmem : decide (l[m] ∈ l') = true := decide_eq_true (HIN.out l[m] (List.getElem_mem hlt))
      have HM := Lib.hid hmem
      clear hmem
      go_wp2_with (go_at_call 21; go_must (refine (ref16_HasId (A := A') (c := c') (l := l') l[m] ?_ hn' HM.out).mono ?_); (exact HL'.out.next hbw); rintro e w1 ⟨rfl, hb1⟩; have hx1 : Below w.heap.size w w1 := below_next hbw hb1)
      go_roundw
      case rel => exact ⟨m + 1, by omega, by go_num, hx1⟩
      case measure => simp [intOf]; omega
    · go_wp2
      go_ret
      exact ⟨rfl, hbw⟩
end Go.Proofs.Ytoleifehijccmaa
