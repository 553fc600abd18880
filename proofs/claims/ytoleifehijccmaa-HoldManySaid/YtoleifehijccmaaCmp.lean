/-
  Layer 1: the order of values: value.Compare and the reference's twin, for every two values.
-/
import Derived.Test.YtoleifehijccmaaVal
import Derived.Test.YtoleifehijccmaaShelf
import Derived.Deep.RegionWith
import Derived.Deep.DeepCutAuto
import Derived.Deep.Light
namespace Go.Proofs.Ytoleifehijccmaa
set_option linter.unusedVariables false
open Go.RowKit

def cmpInt (a b : Int) : Int := if a < b then -1 else if b < a then 1 else 0
def cmpStr (a b : ByteArray) : Int := if Op.bytesLess a.toList b.toList then -1 else if Op.bytesLess b.toList a.toList then 1 else 0
/-- The order of values (P1.2). -/
def cmpVal (a b : Val) : Int :=
  if (clean a).kind != (clean b).kind then cmpInt (clean a).kind (clean b).kind
  else if (clean a).kind == 1 then cmpInt (clean a).num (clean b).num
  else if (clean a).kind == 2 then cmpStr (clean a).text (clean b).text else 0

theorem bytesLess_gtr : ∀ (a b : List UInt8), (!(Op.bytesLess a b || a == b)) = Op.bytesLess b a
  | [], [] => rfl
  | [], _ :: _ => rfl
  | _ :: _, [] => rfl
  | x :: a, y :: b => by
    have ih := bytesLess_gtr a b
    simp only [Op.bytesLess]
    by_cases h : x = y
    · subst h
      simp [UInt8.lt_irrefl] at ih ⊢
      exact ih
    · by_cases h1 : x < y
      · have h2 : ¬ y < x := UInt8.lt_asymm h1
        have h3 : ¬ y = x := fun e => h e.symm
        simp [h1, h2, h3]
      · have h2 : y < x := UInt8.lt_of_le_of_ne (UInt8.not_lt.1 h1) (Ne.symm h)
        simp [h, h1, h2]

theorem cmpBytes_eq : ∀ (a b : List UInt8), Lib.compareBytes a b = if Op.bytesLess a b then -1 else if Op.bytesLess b a then 1 else 0
  | [], [] => rfl
  | [], _ :: _ => rfl
  | _ :: _, [] => rfl
  | x :: a, y :: b => by
    have ih := cmpBytes_eq a b
    simp only [Op.bytesLess, Lib.compareBytes, ih]
    by_cases h : x = y
    · subst h; simp [UInt8.lt_irrefl]
    · by_cases h1 : x < y
      · simp [h1]
      · have h2 : y < x := UInt8.lt_of_le_of_ne (UInt8.not_lt.1 h1) (Ne.symm h)
        simp [h, h1, h2]
theorem compareBytes_cmpStr (a b : ByteArray) : Lib.compareBytes a.data.toList b.data.toList = cmpStr a b := by
  rw [cmpBytes_eq, cmpStr, ByteArray.toList_eq, ByteArray.toList_eq]

set_option maxHeartbeats 400000 in
theorem cmp_int (a b : Int) (w : World) : Calls Try.prog 79 #[.int .i64 a, .int .i64 b] w fun e w' => e = .returned (.int .i64 (cmpInt a b)) ∧ w = w' := by
  go_enter Try.func79, Try.ntmps79
  go_wp2
  all_goals go_ret
  all_goals refine ⟨ret_int ?_, rfl⟩
  all_goals unfold cmpInt
  all_goals (repeat (first | omega | rfl | split))

set_option maxHeartbeats 400000 in
theorem cmp_int64 (a b : Int) (w : World) : Calls Try.prog 80 #[.int .i64 a, .int .i64 b] w fun e w' => e = .returned (.int .i64 (cmpInt a b)) ∧ w = w' := by
  go_enter Try.func80, Try.ntmps80
  go_wp2
  all_goals go_ret
  all_goals refine ⟨ret_int ?_, rfl⟩
  all_goals unfold cmpInt
  all_goals (repeat (first | omega | rfl | split))

set_option maxHeartbeats 400000 in
theorem cmp_string (a b : ByteArray) (w : World) : Calls Try.prog 51 #[.string a, .string b] w fun e w' => e = .returned (.int .i64 (cmpStr a b)) ∧ w = w' := by
  go_enter Try.func51, Try.ntmps51
  go_wp2
  all_goals go_ret
  all_goals refine ⟨ret_int ?_, rfl⟩
  all_goals (rw [cmpStr, ← bytesLess_gtr a.toList b.toList]; simp_all)

/-- The cells of two boxed values. -/
def TwoVals (B : Nat) (a b : Val) (w : World) : Prop :=
  w.cell? ⟨B, 0, none⟩ = some (.int .i64 a.kind) ∧ w.cell? ⟨B, 1, none⟩ = some (.int .i64 a.num) ∧ w.cell? ⟨B, 2, none⟩ = some (.string a.text) ∧
  w.cell? ⟨B + 1, 0, none⟩ = some (.int .i64 b.kind) ∧ w.cell? ⟨B + 1, 1, none⟩ = some (.int .i64 b.num) ∧ w.cell? ⟨B + 1, 2, none⟩ = some (.string b.text)

set_option maxHeartbeats 1000000 in
theorem value_Compare (k n k' n' : Int) (t t' : ByteArray) (w : World) :
    Calls Try.prog 52 #[.agg #[.int .i64 k, .int .i64 n, .string t], .agg #[.int .i64 k', .int .i64 n', .string t']] w fun e w' =>
      e = .returned (.int .i64 (cmpVal ⟨k, n, t⟩ ⟨k', n', t'⟩)) ∧ Ext w w' := by
  go_enter Try.func52, Try.ntmps52
  go_upto_region 1 with (fail)
  go_cut [] (fun wc => Ext w wc ∧ TwoVals w.heap.size (clean ⟨k, n, t⟩) (clean ⟨k', n', t'⟩) wc)
  case first =>
    go_region_with (go_at_call 78; refine (value_Clean _ _ _ _).mono ?_; rintro e w1 ⟨rfl, hb⟩; obtain ⟨c0, f0, z0⟩ := keepE hb w.heap.size (by first | assumption | (simp; done) | (simp; omega) | omega); obtain ⟨c1, f1, z1⟩ := keepE hb (w.heap.size + 1) (by first | assumption | (simp; done) | (simp; omega) | omega))
    all_goals (go_wp2_with fail; go_meet; refine ⟨by repeat (first | with_reducible exact Ext.refl _ | with_reducible assumption | (with_reducible refine Ext.setCell ?_ ?_ _; rotate_left; focus (first | exact Nat.le_refl _ | exact Nat.le_add_right _ _ | (simp; done) | (simp; omega) | omega)) | with_reducible refine Ext.alloc ?_ _ | with_reducible refine Ext.drew ?_ | with_reducible refine Ext.drewN ?_ _ | (with_reducible refine Ext.trans ?_ (by with_reducible assumption))), by unfold TwoVals; go_light; go_simp⟩)
  case rest =>
    obtain ⟨hx, h1, h2, h3, h4, h5, h6⟩ := hcut
    go_wp2_with (first | (go_at_call 79; refine (cmp_int _ _ _).mono ?_; rintro e w1 ⟨rfl, rfl⟩) | (go_at_call 80; refine (cmp_int64 _ _ _).mono ?_; rintro e w1 ⟨rfl, rfl⟩) | (go_at_call 81; refine (Try.strings_Compare _ _ _).mono ?_; rintro e w1 ⟨rfl, rfl⟩))
    all_goals go_ret
    all_goals refine ⟨ret_int ?_, hx⟩
    all_goals (try rw [compareBytes_cmpStr])
    all_goals (simp [cmpVal, *]; done)

end Go.Proofs.Ytoleifehijccmaa
