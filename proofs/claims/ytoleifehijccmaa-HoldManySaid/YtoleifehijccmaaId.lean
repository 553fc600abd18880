/-
  Layer 16: identity.ValidIdentifier, Compare (with their deferred recover), and the reference's twins, for every identifier.
-/
import Derived.Test.YtoleifehijccmaaName
import Derived.Test.YtoleifehijccmaaRef1
import Derived.Defers
import Derived.Recover
namespace Go.Proofs.Ytoleifehijccmaa
set_option linter.unusedVariables false
open Go.RowKit

/-- A valid identifier (P16.1). -/
def validId (x : Ident) : Bool := nameB x.ns && (valB x.val && x.val.kind != 0)
/-- The order of identifiers. -/
def cmpId (a b : Ident) : Int := if cmpStr a.ns b.ns != 0 then cmpStr a.ns b.ns else cmpVal a.val b.val

/-- A deferred closure that only recovers does nothing where nothing panics. -/
theorem idle_Compare (w : World) : CallsD Try.prog 50 #[] .returning w fun e u' w' => e = .returned (.tuple #[]) ∧ u' = .returning ∧ w' = w := by
  refine callsD_of_wpS Try.func50 rfl fun c₀ cs hu => ?_
  apply wpS_region
  cases c₀
  simp_all [wpOpsS, go_sem, recoverD, Try.ntmps50, bodyPostS, results, Try.results50]
theorem idle_ValidIdentifier (w : World) : CallsD Try.prog 45 #[] .returning w fun e u' w' => e = .returned (.tuple #[]) ∧ u' = .returning ∧ w' = w := by
  refine callsD_of_wpS Try.func45 rfl fun c₀ cs hu => ?_
  apply wpS_region
  cases c₀
  simp_all [wpOpsS, go_sem, recoverD, Try.ntmps45, bodyPostS, results, Try.results45]

set_option maxHeartbeats 400000 in
theorem identity_Compare (s s' : ByteArray) (k n k' n' : Int) (t t' : ByteArray) (w : World) :
    Calls Try.prog 27 #[.agg #[.string s, .int .i64 k, .int .i64 n, .string t], .agg #[.string s', .int .i64 k', .int .i64 n', .string t']] w fun e w' =>
      e = .returned (.int .i64 (cmpId ⟨s, k, n, t⟩ ⟨s', k', n', t'⟩)) ∧ Ext w w' := by
  go_enter_defers Try.func27, Try.ntmps27
  go_wp2_with (first | (go_at_call 51; refine (cmp_string _ _ _).mono ?_; rintro e w1 ⟨rfl, rfl⟩) | (go_at_call 52; refine (value_Compare _ _ _ _ _ _ _).mono ?_; rintro e w1 ⟨rfl, hb⟩))
  all_goals (refine leaves_cons (f := 50) (args := #[]) (by simp) (by simp [go_sem]) ?_; refine (idle_Compare _).mono ?_; rintro e u' w'' ⟨rfl, rfl, rfl⟩; refine ⟨_, results_tmp rfl _ _ _, ?_⟩)
  · have h : (cmpStr s s' != 0) = true := by assumption
    exact ⟨ret_int (by simp [cmpId, h]), by repeat (first | with_reducible exact Ext.refl _ | with_reducible assumption | (with_reducible refine Ext.setCell ?_ ?_ _; rotate_left; focus (first | exact Nat.le_refl _ | exact Nat.le_add_right _ _ | (simp; done) | (simp; omega) | omega)) | with_reducible refine Ext.alloc ?_ _ | with_reducible refine Ext.drew ?_ | with_reducible refine Ext.drewN ?_ _ | (with_reducible refine Ext.trans ?_ (by with_reducible assumption)))⟩
  · have h : (cmpStr s s' != 0) = false := by assumption
    exact ⟨ret_int (by simp [cmpId, h]), by repeat (first | with_reducible exact Ext.refl _ | with_reducible assumption | (with_reducible refine Ext.setCell ?_ ?_ _; rotate_left; focus (first | exact Nat.le_refl _ | exact Nat.le_add_right _ _ | (simp; done) | (simp; omega) | omega)) | with_reducible refine Ext.alloc ?_ _ | with_reducible refine Ext.drew ?_ | with_reducible refine Ext.drewN ?_ _ | (with_reducible refine Ext.trans ?_ (by with_reducible assumption)))⟩

set_option maxHeartbeats 400000 in
theorem identity_ValidIdentifier (s : ByteArray) (k n : Int) (t : ByteArray) (w : World) (hs : s.size ≤ 1000000) :
    Calls Try.prog 25 #[.agg #[.string s, .int .i64 k, .int .i64 n, .string t]] w fun e w' =>
      e = .returned (.bool (validId ⟨s, k, n, t⟩)) ∧ Ext w w' := by
  go_enter_defers Try.func25, Try.ntmps25
  go_wp2_with (first | (go_at_call 46; refine (lexer_IsName _ _ hs).mono ?_; rintro e w1 ⟨rfl, rfl⟩) | (go_at_call 47; refine (value_Valid _ _ _ _).mono ?_; rintro e w1 ⟨rfl, hb⟩; obtain ⟨c0, f0, z0⟩ := keepE hb w.heap.size (by first | assumption | (simp; done) | (simp; omega) | omega)))
  all_goals (refine leaves_cons (f := 45) (args := #[]) (by simp) (by simp [go_sem]) ?_; refine (idle_ValidIdentifier _).mono ?_; rintro e u' w'' ⟨rfl, rfl, rfl⟩; refine ⟨_, results_tmp rfl _ _ _, ?_⟩)
  all_goals refine ⟨ret_bool ?_, by repeat (first | with_reducible exact Ext.refl _ | with_reducible assumption | (with_reducible refine Ext.setCell ?_ ?_ _; rotate_left; focus (first | exact Nat.le_refl _ | exact Nat.le_add_right _ _ | (simp; done) | (simp; omega) | omega)) | with_reducible refine Ext.alloc ?_ _ | with_reducible refine Ext.drew ?_ | with_reducible refine Ext.drewN ?_ _ | (with_reducible refine Ext.trans ?_ (by with_reducible assumption)))⟩
  all_goals (go_light; simp_all [validId])

set_option maxHeartbeats 400000 in
theorem ref16_ValidIdentifier (s : ByteArray) (k n : Int) (t : ByteArray) (w : World) (hs : s.size ≤ 1000000) :
    Calls Try.prog 26 #[.agg #[.string s, .int .i64 k, .int .i64 n, .string t]] w fun e w' =>
      e = .returned (.bool (validId ⟨s, k, n, t⟩)) ∧ Ext w w' := by
  go_enter Try.func26, Try.ntmps26
  go_wp2_with (first | (go_at_call 48; refine (ref02_IsName _ _ hs).mono ?_; rintro e w1 ⟨rfl, rfl⟩) | (go_at_call 49; refine (ref01_Valid _ _ _ _).mono ?_; rintro e w1 ⟨rfl, hb⟩; obtain ⟨c0, f0, z0⟩ := keepE hb w.heap.size (by first | assumption | (simp; done) | (simp; omega) | omega)))
  all_goals go_ret
  all_goals refine ⟨ret_bool ?_, by repeat (first | with_reducible exact Ext.refl _ | with_reducible assumption | (with_reducible refine Ext.setCell ?_ ?_ _; rotate_left; focus (first | exact Nat.le_refl _ | exact Nat.le_add_right _ _ | (simp; done) | (simp; omega) | omega)) | with_reducible refine Ext.alloc ?_ _ | with_reducible refine Ext.drew ?_ | with_reducible refine Ext.drewN ?_ _ | (with_reducible refine Ext.trans ?_ (by with_reducible assumption)))⟩
  all_goals (go_light; simp_all [validId])

set_option maxHeartbeats 400000 in
theorem ref16_Compare (s s' : ByteArray) (k n k' n' : Int) (t t' : ByteArray) (w : World) :
    Calls Try.prog 28 #[.agg #[.string s, .int .i64 k, .int .i64 n, .string t], .agg #[.string s', .int .i64 k', .int .i64 n', .string t']] w fun e w' =>
      e = .returned (.int .i64 (cmpId ⟨s, k, n, t⟩ ⟨s', k', n', t'⟩)) ∧ Ext w w' := by
  have hg := bytesLess_gtr s.toList s'.toList
  have HG := Lib.hid hg
  clear hg
  go_enter Try.func28, Try.ntmps28
  go_wp2_with (go_at_call 53; refine (ref01_Compare _ _ _ _ _ _ _).mono ?_; rintro e w1 ⟨rfl, hb⟩)
  all_goals go_ret
  all_goals (refine ⟨ret_int ?_, by repeat (first | with_reducible exact Ext.refl _ | with_reducible assumption | (with_reducible refine Ext.setCell ?_ ?_ _; rotate_left; focus (first | exact Nat.le_refl _ | exact Nat.le_add_right _ _ | (simp; done) | (simp; omega) | omega)) | with_reducible refine Ext.alloc ?_ _ | with_reducible refine Ext.drew ?_ | with_reducible refine Ext.drewN ?_ _ | (with_reducible refine Ext.trans ?_ (by with_reducible assumption)))⟩; go_light; rw [cmpId, cmpStr, ← HG.out]; simp_all)
end Go.Proofs.Ytoleifehijccmaa
