/-
  Layer 1, the reference: '==' on values, erasureref01.Compare, Int, Text.
-/
import Derived.Test.YtoleifehijccmaaCmp
namespace Go.Proofs.Ytoleifehijccmaa
set_option linter.unusedVariables false
open Go.RowKit

/-- '==' of two values, as the model runs it. -/
theorem eqlVal (x y : Val) (w : World) : (Op.equalIn 10000 24 (.agg #[.int .i64 x.kind, .int .i64 x.num, .string x.text]) (.agg #[.int .i64 y.kind, .int .i64 y.num, .string y.text])).run Try.prog w = .ok (decide (x = y)) w := by
  have hS : Try.prog.underlying 24 = some (.struct (Try.prog.fieldsOf 24)) := by kernel_rfl
  have hp : Try.prog.stoodInHeld 24 = false := by kernel_rfl
  have u2 := Try.underlying2
  have u3 := Try.underlying3
  have u9 := Try.underlying9
  rw [show (10000 : Nat) = 9999 + 1 from rfl, run_equalIn_agg w _ 24 _ _ hS hp]
  simp only [Program.fieldsOf, Try.underlying24]
  go_simp
  obtain ⟨a, b, c⟩ := x
  obtain ⟨a', b', c'⟩ := y
  simp only [Val.mk.injEq]
  by_cases h1 : a = a' <;> by_cases h2 : b = b' <;> by_cases h3 : c = c' <;> simp [h1, h2, h3, ba_eq_iff]

/-- The reference's own form of the order, on cleaned values. -/
def refCmp (a b : Val) : Int :=
  if a = b then 0 else if decide (a.kind < b.kind) || (a.kind == b.kind && (decide (a.num < b.num) || Op.bytesLess a.text.toList b.text.toList)) then -1 else 1

theorem clean_valid (a : Val) : valB (clean a) = true := by
  unfold clean
  split
  · assumption
  · simp [valB, ByteArray.toList_eq]
theorem isEmpty_ba {t : ByteArray} (h : t.toList.isEmpty = true) : t = ⟨#[]⟩ := by
  apply ba_ext
  simp at h
  rw [h, ByteArray.toList_eq]
/-- A valid value is null, an integer or a text. -/
theorem valB_cases {x : Val} (h : valB x = true) : x = ⟨0, 0, ⟨#[]⟩⟩ ∨ (∃ n, x = ⟨1, n, ⟨#[]⟩⟩ ∧ -4294967296 ≤ n ∧ n ≤ 4294967296) ∨ (∃ t, x = ⟨2, 0, t⟩ ∧ t.size ≤ 32) := by
  obtain ⟨k, n, t⟩ := x
  unfold valB at h
  simp only at h
  split at h
  · simp only [Bool.and_eq_true, beq_iff_eq] at *
    left
    obtain ⟨h1, h2⟩ := h
    rw [isEmpty_ba h2]
    simp [*]
  · split at h
    · simp only [Bool.and_eq_true, beq_iff_eq, decide_eq_true_eq] at *
      right; left
      obtain ⟨⟨h1, h2⟩, h3⟩ := h
      exact ⟨n, by rw [isEmpty_ba h3]; simp [*], h1, h2⟩
    · split at h
      · simp only [Bool.and_eq_true, beq_iff_eq, decide_eq_true_eq] at *
        right; right
        exact ⟨t, by simp [*], h.2⟩
      · cases h
theorem bytesLess_irrefl : ∀ a : List UInt8, Op.bytesLess a a = false
  | [] => rfl
  | x :: a => by simp [Op.bytesLess, UInt8.lt_irrefl, bytesLess_irrefl a]
theorem refCmp_eq (a b : Val) : refCmp (clean a) (clean b) = cmpVal a b := by
  have ha := valB_cases (clean_valid a)
  have hb := valB_cases (clean_valid b)
  unfold cmpVal
  generalize clean a = c at *
  generalize clean b = d at *
  unfold refCmp cmpInt cmpStr
  rcases ha with rfl | ⟨n, rfl, _, _⟩ | ⟨t, rfl, _⟩ <;> rcases hb with rfl | ⟨n', rfl, _, _⟩ | ⟨t', rfl, _⟩
  · simp
  · simp
  · simp
  · simp
  · simp only [Val.mk.injEq]
    by_cases h1 : n = n'
    · simp [h1]
    · by_cases h2 : n < n'
      · simp [h1, h2]
      · have h3 : n' < n := by omega
        simp [h1, h2, h3, Op.bytesLess]
  · simp
  · simp
  · simp
  · simp only [Val.mk.injEq]
    by_cases h1 : t = t'
    · simp [h1, bytesLess_irrefl]
    · have h2 := bytesLess_gtr t.toList t'.toList
      have h3 : ¬ t.toList = t'.toList := fun e => h1 (ba_ext e)
      by_cases h4 : Op.bytesLess t.toList t'.toList = true
      · simp [h1, h4]
      · have h5 : (t.toList == t'.toList) = false := by simpa using h3
        rw [h5] at h2
        have h6 : Op.bytesLess t'.toList t.toList = true := by
          rw [← h2]; simpa using h4
        simp [h1, h4, h6]

set_option maxHeartbeats 1000000 in
theorem ref01_Compare (k n k' n' : Int) (t t' : ByteArray) (w : World) :
    Calls Try.prog 53 #[.agg #[.int .i64 k, .int .i64 n, .string t], .agg #[.int .i64 k', .int .i64 n', .string t']] w fun e w' =>
      e = .returned (.int .i64 (cmpVal ⟨k, n, t⟩ ⟨k', n', t'⟩)) ∧ Ext w w' := by
  have heq := eqlVal (clean ⟨k, n, t⟩) (clean ⟨k', n', t'⟩)
  have hg : Try.prog.eqGuardType Try.prog.depth 24 = false := by kernel_rfl
  go_enter Try.func53, Try.ntmps53
  go_upto_region 1 with (fail)
  go_cut [] (fun wc => Ext w wc ∧ TwoVals w.heap.size (clean ⟨k, n, t⟩) (clean ⟨k', n', t'⟩) wc)
  case first =>
    go_region_with (go_at_call 33; refine (ref01_Clean _ _ _ _).mono ?_; rintro e w1 ⟨rfl, hb⟩; obtain ⟨c0, f0, z0⟩ := keepE hb w.heap.size (by first | assumption | (simp; done) | (simp; omega) | omega); obtain ⟨c1, f1, z1⟩ := keepE hb (w.heap.size + 1) (by first | assumption | (simp; done) | (simp; omega) | omega))
    all_goals (go_wp2_with fail; go_meet; refine ⟨by repeat (first | with_reducible exact Ext.refl _ | with_reducible assumption | (with_reducible refine Ext.setCell ?_ ?_ _; rotate_left; focus (first | exact Nat.le_refl _ | exact Nat.le_add_right _ _ | (simp; done) | (simp; omega) | omega)) | with_reducible refine Ext.alloc ?_ _ | with_reducible refine Ext.drew ?_ | with_reducible refine Ext.drewN ?_ _ | (with_reducible refine Ext.trans ?_ (by with_reducible assumption))), by unfold TwoVals; go_light; go_simp⟩)
  case rest =>
    obtain ⟨hx, h1, h2, h3, h4, h5, h6⟩ := hcut
    set_option maxRecDepth 100000 in
    go_wp2_with fail
    all_goals go_ret
    all_goals (refine ⟨ret_int ?_, hx⟩; rw [← refCmp_eq]; clear heq hg h1 h2 h3 h4 h5 h6 hx; go_light; generalize clean ⟨k, n, t⟩ = c at *; generalize clean ⟨k', n', t'⟩ = d at *; unfold refCmp)
    all_goals first
      | (simp_all; done)
      | (simp_all; omega)

set_option maxHeartbeats 400000 in
theorem ref01_Int (n : Int) (w : World) :
    Calls Try.prog 11 #[.int .i64 n] w fun e w' => e = .returned (.agg #[.int .i64 (clean ⟨1, n, ⟨#[]⟩⟩).kind, .int .i64 (clean ⟨1, n, ⟨#[]⟩⟩).num, .string (clean ⟨1, n, ⟨#[]⟩⟩).text]) ∧ Ext w w' := by
  go_enter Try.func11, Try.ntmps11
  go_wp2_with (go_at_call 33; refine (ref01_Clean _ _ _ _).mono ?_; rintro e w1 ⟨rfl, hb⟩; obtain ⟨c0, f0, z0⟩ := keepE hb w.heap.size (by first | assumption | (simp; done) | (simp; omega) | omega))
  refine bodyPost_ret (v := .agg #[.int .i64 (clean ⟨1, n, ⟨#[]⟩⟩).kind, .int .i64 (clean ⟨1, n, ⟨#[]⟩⟩).num, .string (clean ⟨1, n, ⟨#[]⟩⟩).text]) (by simp [results, Try.results11, go_sem, c0]) rfl ⟨rfl, ?_⟩
  repeat (first | with_reducible exact Ext.refl _ | with_reducible assumption | (with_reducible refine Ext.setCell ?_ ?_ _; rotate_left; focus (first | exact Nat.le_refl _ | exact Nat.le_add_right _ _ | (simp; done) | (simp; omega) | omega)) | with_reducible refine Ext.alloc ?_ _ | with_reducible refine Ext.drew ?_ | with_reducible refine Ext.drewN ?_ _ | (with_reducible refine Ext.trans ?_ (by with_reducible assumption)))

set_option maxHeartbeats 400000 in
theorem ref01_Text (s : ByteArray) (w : World) :
    Calls Try.prog 71 #[.string s] w fun e w' => e = .returned (.agg #[.int .i64 (clean ⟨2, 0, s⟩).kind, .int .i64 (clean ⟨2, 0, s⟩).num, .string (clean ⟨2, 0, s⟩).text]) ∧ Ext w w' := by
  go_enter Try.func71, Try.ntmps71
  go_wp2_with (go_at_call 33; refine (ref01_Clean _ _ _ _).mono ?_; rintro e w1 ⟨rfl, hb⟩; obtain ⟨c0, f0, z0⟩ := keepE hb w.heap.size (by first | assumption | (simp; done) | (simp; omega) | omega))
  refine bodyPost_ret (v := .agg #[.int .i64 (clean ⟨2, 0, s⟩).kind, .int .i64 (clean ⟨2, 0, s⟩).num, .string (clean ⟨2, 0, s⟩).text]) (by simp [results, Try.results71, go_sem, c0]) rfl ⟨rfl, ?_⟩
  repeat (first | with_reducible exact Ext.refl _ | with_reducible assumption | (with_reducible refine Ext.setCell ?_ ?_ _; rotate_left; focus (first | exact Nat.le_refl _ | exact Nat.le_add_right _ _ | (simp; done) | (simp; omega) | omega)) | with_reducible refine Ext.alloc ?_ _ | with_reducible refine Ext.drew ?_ | with_reducible refine Ext.drewN ?_ _ | (with_reducible refine Ext.trans ?_ (by with_reducible assumption)))

end Go.Proofs.Ytoleifehijccmaa
