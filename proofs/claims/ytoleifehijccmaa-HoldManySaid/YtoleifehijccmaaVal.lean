/-
  Layer 1: what value.Valid, Clean, Compare and the reference's twins compute, for every value.
-/
import Derived.Test.YtoleifehijccmaaProg
import Derived.Test.YtoleifehijccmaaBase
namespace Go.Proofs.Ytoleifehijccmaa
set_option linter.unusedVariables false
open Go.RowKit

/-- A valid value (P1.1). -/
def valB (x : Val) : Bool :=
  if x.kind == 0 then x.num == 0 && x.text.toList.isEmpty
  else if x.kind == 1 then decide (-4294967296 ≤ x.num) && decide (x.num ≤ 4294967296) && x.text.toList.isEmpty
  else if x.kind == 2 then x.num == 0 && decide (x.text.size ≤ 32) else false

/-- The value, or null. -/
def clean (x : Val) : Val := if valB x then x else ⟨0, 0, ⟨#[]⟩⟩
theorem clean_yes {x : Val} (h : valB x = true) : clean x = x := by simp [clean, h]
theorem clean_no {x : Val} (h : valB x = false) : clean x = ⟨0, 0, ⟨#[]⟩⟩ := by simp [clean, h]

set_option maxHeartbeats 400000 in
theorem value_Valid (k n : Int) (t : ByteArray) (w : World) :
    Calls Try.prog 47 #[.agg #[.int .i64 k, .int .i64 n, .string t]] w fun e w' => e = .returned (.bool (valB ⟨k, n, t⟩)) ∧ Ext w w' := by
  go_enter Try.func47, Try.ntmps47
  go_wp2
  all_goals go_ret
  all_goals refine ⟨?_, (Ext.refl _).alloc _⟩
  all_goals refine ret_bool ?_
  all_goals first
    | (simp [valB, *]; done)
    | (simp only [valB, *]; simp; omega)

set_option maxHeartbeats 400000 in
theorem ref01_Valid (k n : Int) (t : ByteArray) (w : World) :
    Calls Try.prog 49 #[.agg #[.int .i64 k, .int .i64 n, .string t]] w fun e w' => e = .returned (.bool (valB ⟨k, n, t⟩)) ∧ Ext w w' := by
  go_enter Try.func49, Try.ntmps49
  go_wp2
  all_goals go_ret
  all_goals refine ⟨?_, (Ext.refl _).alloc _⟩
  all_goals refine ret_bool ?_
  all_goals first
    | (simp [valB, *]; done)
    | (simp only [valB, *]; simp; omega)

set_option maxHeartbeats 400000 in
theorem value_Clean (k n : Int) (t : ByteArray) (w : World) :
    Calls Try.prog 78 #[.agg #[.int .i64 k, .int .i64 n, .string t]] w fun e w' =>
      e = .returned (.agg #[.int .i64 (clean ⟨k, n, t⟩).kind, .int .i64 (clean ⟨k, n, t⟩).num, .string (clean ⟨k, n, t⟩).text]) ∧ Ext w w' := by
  go_enter Try.func78, Try.ntmps78
  go_wp2_with (go_at_call 47; refine (value_Valid _ _ _ _).mono ?_; rintro e w1 ⟨rfl, hb⟩; obtain ⟨c0, f0, z0⟩ := keepE hb w.heap.size (by first | assumption | (simp; done) | (simp; omega) | omega); obtain ⟨c1, f1, z1⟩ := keepE hb (w.heap.size + 1) (by first | assumption | (simp; done) | (simp; omega) | omega))
  · have h : valB ⟨k, n, t⟩ = true := by assumption
    refine bodyPost_ret (v := .agg #[.int .i64 k, .int .i64 n, .string t]) (by simp [results, Try.results78, go_sem, c1]) rfl ⟨by rw [clean_yes h], ?_⟩
    repeat (first | with_reducible exact Ext.refl _ | with_reducible assumption | (with_reducible refine Ext.setCell ?_ ?_ _; rotate_left; focus (first | exact Nat.le_refl _ | exact Nat.le_add_right _ _ | (simp; done) | (simp; omega) | omega)) | with_reducible refine Ext.alloc ?_ _ | with_reducible refine Ext.drew ?_ | with_reducible refine Ext.drewN ?_ _ | (with_reducible refine Ext.trans ?_ (by with_reducible assumption)))
  · have h : valB ⟨k, n, t⟩ = false := by assumption
    refine bodyPost_ret (v := .agg #[.int .i64 0, .int .i64 0, .string ⟨#[]⟩]) (by simp [results, Try.results78, go_sem, c1]) rfl ⟨by rw [clean_no h], ?_⟩
    repeat (first | with_reducible exact Ext.refl _ | with_reducible assumption | (with_reducible refine Ext.setCell ?_ ?_ _; rotate_left; focus (first | exact Nat.le_refl _ | exact Nat.le_add_right _ _ | (simp; done) | (simp; omega) | omega)) | with_reducible refine Ext.alloc ?_ _ | with_reducible refine Ext.drew ?_ | with_reducible refine Ext.drewN ?_ _ | (with_reducible refine Ext.trans ?_ (by with_reducible assumption)))

set_option maxHeartbeats 400000 in
theorem ref01_Clean (k n : Int) (t : ByteArray) (w : World) :
    Calls Try.prog 33 #[.agg #[.int .i64 k, .int .i64 n, .string t]] w fun e w' =>
      e = .returned (.agg #[.int .i64 (clean ⟨k, n, t⟩).kind, .int .i64 (clean ⟨k, n, t⟩).num, .string (clean ⟨k, n, t⟩).text]) ∧ Ext w w' := by
  go_enter Try.func33, Try.ntmps33
  go_wp2_with (go_at_call 49; refine (ref01_Valid _ _ _ _).mono ?_; rintro e w1 ⟨rfl, hb⟩; obtain ⟨c0, f0, z0⟩ := keepE hb w.heap.size (by first | assumption | (simp; done) | (simp; omega) | omega); obtain ⟨c1, f1, z1⟩ := keepE hb (w.heap.size + 1) (by first | assumption | (simp; done) | (simp; omega) | omega))
  · have h : valB ⟨k, n, t⟩ = true := by assumption
    refine bodyPost_ret (v := .agg #[.int .i64 k, .int .i64 n, .string t]) (by simp [results, Try.results33, go_sem, c1]) rfl ⟨by rw [clean_yes h], ?_⟩
    repeat (first | with_reducible exact Ext.refl _ | with_reducible assumption | (with_reducible refine Ext.setCell ?_ ?_ _; rotate_left; focus (first | exact Nat.le_refl _ | exact Nat.le_add_right _ _ | (simp; done) | (simp; omega) | omega)) | with_reducible refine Ext.alloc ?_ _ | with_reducible refine Ext.drew ?_ | with_reducible refine Ext.drewN ?_ _ | (with_reducible refine Ext.trans ?_ (by with_reducible assumption)))
  · have h : valB ⟨k, n, t⟩ = false := by assumption
    refine bodyPost_ret (v := .agg #[.int .i64 0, .int .i64 0, .string ⟨#[]⟩]) (by simp [results, Try.results33, go_sem, c1]) rfl ⟨by rw [clean_no h], ?_⟩
    repeat (first | with_reducible exact Ext.refl _ | with_reducible assumption | (with_reducible refine Ext.setCell ?_ ?_ _; rotate_left; focus (first | exact Nat.le_refl _ | exact Nat.le_add_right _ _ | (simp; done) | (simp; omega) | omega)) | with_reducible refine Ext.alloc ?_ _ | with_reducible refine Ext.drew ?_ | with_reducible refine Ext.drewN ?_ _ | (with_reducible refine Ext.trans ?_ (by with_reducible assumption)))

end Go.Proofs.Ytoleifehijccmaa
