/-
  Holds: their validity and activity, in the program.
-/
import Derived.Test.YtoleifehijccmaaLooks
namespace Go.Proofs.Ytoleifehijccmaa
set_option linter.unusedVariables false
open Go.RowKit

/-- A hold. -/
structure Hold where
  table : Int
  column : Int
  who : Ident
  seq : Int
  day0 : Int
  day1 : Int
def Hold.cells (x : Hold) : List Value := [.int .i64 x.table, .int .i64 x.column, .string x.who.ns, .int .i64 x.who.val.kind, .int .i64 x.who.val.num, .string x.who.val.text, .int .i64 x.seq, .int .i64 x.day0, .int .i64 x.day1]
/-- The empty identifier: the hold is not limited. -/
def noId : Ident := ⟨⟨#[]⟩, 0, 0, ⟨#[]⟩⟩
def holdOk (x : Hold) : Bool := decide (-1 ≤ x.table) && decide (x.table ≤ 1000) && decide (-1 ≤ x.column) && decide (x.column ≤ 1000) && !(decide (x.table = -1) && !decide (x.column = -1)) && decide (1 ≤ x.seq) && decide (x.seq ≤ 1073741824) && (decide (x.who = noId) || validId x.who) && decide (0 ≤ x.day0) && decide (x.day0 < x.day1) && decide (x.day1 ≤ 1048576)
def validHolds (l : List Hold) : Bool := decide (l.length ≤ 32) && l.all holdOk
def SaneH (l : List Hold) : Prop := ∀ x ∈ l, x.who.ns.size ≤ 1000000
theorem Hold.cells9 {w : World} {b o : Nat} {x : Hold} (h : ∀ j u, x.cells[j]? = some u → w.cell? ⟨b, o + j, none⟩ = some u) :
    w.cell? ⟨b, o, none⟩ = some (.int .i64 x.table) ∧ w.cell? ⟨b, o + 1, none⟩ = some (.int .i64 x.column) ∧ (w.cell? ⟨b, o + 2, none⟩ = some (.string x.who.ns) ∧ w.cell? ⟨b, o + 3, none⟩ = some (.int .i64 x.who.val.kind) ∧ w.cell? ⟨b, o + 4, none⟩ = some (.int .i64 x.who.val.num) ∧ w.cell? ⟨b, o + 5, none⟩ = some (.string x.who.val.text)) ∧ w.cell? ⟨b, o + 6, none⟩ = some (.int .i64 x.seq) ∧ w.cell? ⟨b, o + 7, none⟩ = some (.int .i64 x.day0) ∧ w.cell? ⟨b, o + 8, none⟩ = some (.int .i64 x.day1) :=
  ⟨h 0 _ rfl, h 1 _ rfl, ⟨h 2 _ rfl, h 3 _ rfl, h 4 _ rfl, h 5 _ rfl⟩, h 6 _ rfl, h 7 _ rfl, h 8 _ rfl⟩
theorem holdOk_iff (x : Hold) : holdOk x = true ↔ (-1 ≤ x.table ∧ x.table ≤ 1000 ∧ -1 ≤ x.column ∧ x.column ≤ 1000 ∧ (x.table = -1 → x.column = -1) ∧ 1 ≤ x.seq ∧ x.seq ≤ 1073741824 ∧ (x.who = noId ∨ validId x.who = true) ∧ 0 ≤ x.day0 ∧ x.day0 < x.day1 ∧ x.day1 ≤ 1048576) := by
  simp [holdOk, and_assoc]
  intros
  exact Decidable.imp_iff_not_or.symm
theorem eqlNo {x : Ident} {b : Bool} (h : decide (x = noId) = b) : ∀ w : World, (Op.equalIn 10000 27 (.agg #[.string x.ns, .int .i64 x.val.kind, .int .i64 x.val.num, .string x.val.text]) (.agg #[.string ⟨#[]⟩, .int .i64 0, .int .i64 0, .string ⟨#[]⟩])).run Try.prog w = .ok b w :=
  by have h1 := eqlId_of h; simp only [noId] at h1; exact h1

set_option maxRecDepth 100000 in
set_option maxHeartbeats 2000000 in
theorem hold_invalid (x : Hold) (w : World) (hs : x.who.ns.size ≤ 1000000) :
    Calls Try.prog 60 #[.agg #[.int .i64 x.table, .int .i64 x.column, .string x.who.ns, .int .i64 x.who.val.kind, .int .i64 x.who.val.num, .string x.who.val.text, .int .i64 x.seq, .int .i64 x.day0, .int .i64 x.day1]] w fun e w' => e = .returned (.bool (!holdOk x)) ∧ Ext w w' := by
  have hgt : Try.prog.eqGuardType Try.prog.depth 27 = false := by kernel_rfl
  by_cases c1 : x.table < -1
  · go_enter Try.func60, Try.ntmps60
    go_wp2_with fail
    go_ret
    exact ⟨ret_bool (by rw [show holdOk x = false by (rw [Bool.eq_false_iff]; intro h; obtain ⟨h1, h2, h3, h4, h5, h6, h7, _, h8, h9, h10⟩ := (holdOk_iff x).1 h; omega)]; rfl), by repeat (first | with_reducible exact Ext.refl _ | with_reducible assumption | (with_reducible refine Ext.setCell ?_ ?_ _; rotate_left; focus (first | exact Nat.le_refl _ | exact Nat.le_add_right _ _ | (simp; done) | (simp; omega) | omega)) | with_reducible refine Ext.alloc ?_ _ | with_reducible refine Ext.drew ?_ | with_reducible refine Ext.drewN ?_ _ | (with_reducible refine Ext.trans ?_ (by with_reducible assumption)))⟩
  have d1 : decide (x.table < -1) = false := by simpa using c1
  by_cases c2 : 1000 < x.table
  · go_enter Try.func60, Try.ntmps60
    go_wp2_with fail
    go_ret
    exact ⟨ret_bool (by rw [show holdOk x = false by (rw [Bool.eq_false_iff]; intro h; obtain ⟨h1, h2, h3, h4, h5, h6, h7, _, h8, h9, h10⟩ := (holdOk_iff x).1 h; omega)]; rfl), by repeat (first | with_reducible exact Ext.refl _ | with_reducible assumption | (with_reducible refine Ext.setCell ?_ ?_ _; rotate_left; focus (first | exact Nat.le_refl _ | exact Nat.le_add_right _ _ | (simp; done) | (simp; omega) | omega)) | with_reducible refine Ext.alloc ?_ _ | with_reducible refine Ext.drew ?_ | with_reducible refine Ext.drewN ?_ _ | (with_reducible refine Ext.trans ?_ (by with_reducible assumption)))⟩
  have d2 : decide (1000 < x.table) = false := by simpa using c2
  by_cases c3 : x.column < -1
  · go_enter Try.func60, Try.ntmps60
    go_wp2_with fail
    go_ret
    exact ⟨ret_bool (by rw [show holdOk x = false by (rw [Bool.eq_false_iff]; intro h; obtain ⟨h1, h2, h3, h4, h5, h6, h7, _, h8, h9, h10⟩ := (holdOk_iff x).1 h; omega)]; rfl), by repeat (first | with_reducible exact Ext.refl _ | with_reducible assumption | (with_reducible refine Ext.setCell ?_ ?_ _; rotate_left; focus (first | exact Nat.le_refl _ | exact Nat.le_add_right _ _ | (simp; done) | (simp; omega) | omega)) | with_reducible refine Ext.alloc ?_ _ | with_reducible refine Ext.drew ?_ | with_reducible refine Ext.drewN ?_ _ | (with_reducible refine Ext.trans ?_ (by with_reducible assumption)))⟩
  have d3 : decide (x.column < -1) = false := by simpa using c3
  by_cases c4 : 1000 < x.column
  · go_enter Try.func60, Try.ntmps60
    go_wp2_with fail
    go_ret
    exact ⟨ret_bool (by rw [show holdOk x = false by (rw [Bool.eq_false_iff]; intro h; obtain ⟨h1, h2, h3, h4, h5, h6, h7, _, h8, h9, h10⟩ := (holdOk_iff x).1 h; omega)]; rfl), by repeat (first | with_reducible exact Ext.refl _ | with_reducible assumption | (with_reducible refine Ext.setCell ?_ ?_ _; rotate_left; focus (first | exact Nat.le_refl _ | exact Nat.le_add_right _ _ | (simp; done) | (simp; omega) | omega)) | with_reducible refine Ext.alloc ?_ _ | with_reducible refine Ext.drew ?_ | with_reducible refine Ext.drewN ?_ _ | (with_reducible refine Ext.trans ?_ (by with_reducible assumption)))⟩
  have d4 : decide (1000 < x.column) = false := by simpa using c4
  by_cases c5 : x.table = -1
  · have e5 : (x.table == -1) = true := by simpa using c5
    by_cases c6 : x.column = -1
    · have e6 : (x.column == -1) = true := by simpa using c6
      have hok : x.table = -1 → x.column = -1 := fun _ => c6
      have HOK := Lib.hid hok
      clear hok
      by_cases c7 : x.seq < 1
      · go_enter Try.func60, Try.ntmps60
        go_wp2_with fail
        go_ret
        exact ⟨ret_bool (by rw [show holdOk x = false by (rw [Bool.eq_false_iff]; intro h; obtain ⟨h1, h2, h3, h4, h5, h6, h7, _, h8, h9, h10⟩ := (holdOk_iff x).1 h; omega)]; rfl), by repeat (first | with_reducible exact Ext.refl _ | with_reducible assumption | (with_reducible refine Ext.setCell ?_ ?_ _; rotate_left; focus (first | exact Nat.le_refl _ | exact Nat.le_add_right _ _ | (simp; done) | (simp; omega) | omega)) | with_reducible refine Ext.alloc ?_ _ | with_reducible refine Ext.drew ?_ | with_reducible refine Ext.drewN ?_ _ | (with_reducible refine Ext.trans ?_ (by with_reducible assumption)))⟩
      have d7 : decide (x.seq < 1) = false := by simpa using c7
      by_cases c8 : 1073741824 < x.seq
      · go_enter Try.func60, Try.ntmps60
        go_wp2_with fail
        go_ret
        exact ⟨ret_bool (by rw [show holdOk x = false by (rw [Bool.eq_false_iff]; intro h; obtain ⟨h1, h2, h3, h4, h5, h6, h7, _, h8, h9, h10⟩ := (holdOk_iff x).1 h; omega)]; rfl), by repeat (first | with_reducible exact Ext.refl _ | with_reducible assumption | (with_reducible refine Ext.setCell ?_ ?_ _; rotate_left; focus (first | exact Nat.le_refl _ | exact Nat.le_add_right _ _ | (simp; done) | (simp; omega) | omega)) | with_reducible refine Ext.alloc ?_ _ | with_reducible refine Ext.drew ?_ | with_reducible refine Ext.drewN ?_ _ | (with_reducible refine Ext.trans ?_ (by with_reducible assumption)))⟩
      have d8 : decide (1073741824 < x.seq) = false := by simpa using c8
      cases c9 : decide (x.who = noId)
      · have e9 := eqlNo c9
        cases c10 : validId x.who
        · have H9 := Lib.hid c9
          have H10 := Lib.hid c10
          clear c9 c10
          go_enter Try.func60, Try.ntmps60
          go_wp2_with (go_at_call 25; (with_reducible refine (identity_ValidId x.who _ hs H10.out).mono ?_); rintro e w1 ⟨rfl, hb1⟩; obtain ⟨k0, f0, z0⟩ := keepE hb1 w.heap.size (by first | assumption | (simp; done) | (simp; omega) | omega); have hx1 : Ext w w1 := Ext.trans (by repeat (first | with_reducible exact Ext.refl _ | with_reducible assumption | (with_reducible refine Ext.setCell ?_ ?_ _; rotate_left; focus (first | exact Nat.le_refl _ | exact Nat.le_add_right _ _ | (simp; done) | (simp; omega) | omega)) | with_reducible refine Ext.alloc ?_ _ | with_reducible refine Ext.drew ?_ | with_reducible refine Ext.drewN ?_ _ | (with_reducible refine Ext.trans ?_ (by with_reducible assumption)))) hb1)
          go_ret
          exact ⟨ret_bool (by simp [holdOk, H9.out, H10.out]), by repeat (first | with_reducible exact Ext.refl _ | with_reducible assumption | (with_reducible refine Ext.setCell ?_ ?_ _; rotate_left; focus (first | exact Nat.le_refl _ | exact Nat.le_add_right _ _ | (simp; done) | (simp; omega) | omega)) | with_reducible refine Ext.alloc ?_ _ | with_reducible refine Ext.drew ?_ | with_reducible refine Ext.drewN ?_ _ | (with_reducible refine Ext.trans ?_ (by with_reducible assumption)))⟩
        · have hw : x.who = noId ∨ validId x.who = true := .inr c10
          have HW := Lib.hid hw
          have H9 := Lib.hid c9
          have H10 := Lib.hid c10
          clear hw c9 c10
          by_cases c11 : x.day0 < 0
          · go_enter Try.func60, Try.ntmps60
            go_wp2_with (go_at_call 25; (with_reducible refine (identity_ValidId x.who _ hs H10.out).mono ?_); rintro e w1 ⟨rfl, hb1⟩; obtain ⟨k0, f0, z0⟩ := keepE hb1 w.heap.size (by first | assumption | (simp; done) | (simp; omega) | omega); have hx1 : Ext w w1 := Ext.trans (by repeat (first | with_reducible exact Ext.refl _ | with_reducible assumption | (with_reducible refine Ext.setCell ?_ ?_ _; rotate_left; focus (first | exact Nat.le_refl _ | exact Nat.le_add_right _ _ | (simp; done) | (simp; omega) | omega)) | with_reducible refine Ext.alloc ?_ _ | with_reducible refine Ext.drew ?_ | with_reducible refine Ext.drewN ?_ _ | (with_reducible refine Ext.trans ?_ (by with_reducible assumption)))) hb1)
            go_ret
            exact ⟨ret_bool (by rw [show holdOk x = false by (rw [Bool.eq_false_iff]; intro h; obtain ⟨h1, h2, h3, h4, h5, h6, h7, _, h8, h9, h10⟩ := (holdOk_iff x).1 h; omega)]; rfl), by repeat (first | with_reducible exact Ext.refl _ | with_reducible assumption | (with_reducible refine Ext.setCell ?_ ?_ _; rotate_left; focus (first | exact Nat.le_refl _ | exact Nat.le_add_right _ _ | (simp; done) | (simp; omega) | omega)) | with_reducible refine Ext.alloc ?_ _ | with_reducible refine Ext.drew ?_ | with_reducible refine Ext.drewN ?_ _ | (with_reducible refine Ext.trans ?_ (by with_reducible assumption)))⟩
          have d11 : decide (x.day0 < 0) = false := by simpa using c11
          by_cases c12 : x.day1 ≤ x.day0
          · go_enter Try.func60, Try.ntmps60
            go_wp2_with (go_at_call 25; (with_reducible refine (identity_ValidId x.who _ hs H10.out).mono ?_); rintro e w1 ⟨rfl, hb1⟩; obtain ⟨k0, f0, z0⟩ := keepE hb1 w.heap.size (by first | assumption | (simp; done) | (simp; omega) | omega); have hx1 : Ext w w1 := Ext.trans (by repeat (first | with_reducible exact Ext.refl _ | with_reducible assumption | (with_reducible refine Ext.setCell ?_ ?_ _; rotate_left; focus (first | exact Nat.le_refl _ | exact Nat.le_add_right _ _ | (simp; done) | (simp; omega) | omega)) | with_reducible refine Ext.alloc ?_ _ | with_reducible refine Ext.drew ?_ | with_reducible refine Ext.drewN ?_ _ | (with_reducible refine Ext.trans ?_ (by with_reducible assumption)))) hb1)
            go_ret
            exact ⟨ret_bool (by rw [show holdOk x = false by (rw [Bool.eq_false_iff]; intro h; obtain ⟨h1, h2, h3, h4, h5, h6, h7, _, h8, h9, h10⟩ := (holdOk_iff x).1 h; omega)]; rfl), by repeat (first | with_reducible exact Ext.refl _ | with_reducible assumption | (with_reducible refine Ext.setCell ?_ ?_ _; rotate_left; focus (first | exact Nat.le_refl _ | exact Nat.le_add_right _ _ | (simp; done) | (simp; omega) | omega)) | with_reducible refine Ext.alloc ?_ _ | with_reducible refine Ext.drew ?_ | with_reducible refine Ext.drewN ?_ _ | (with_reducible refine Ext.trans ?_ (by with_reducible assumption)))⟩
          have d12 : decide (x.day1 ≤ x.day0) = false := by simpa using c12
          by_cases c13 : 1048576 < x.day1
          · go_enter Try.func60, Try.ntmps60
            go_wp2_with (go_at_call 25; (with_reducible refine (identity_ValidId x.who _ hs H10.out).mono ?_); rintro e w1 ⟨rfl, hb1⟩; obtain ⟨k0, f0, z0⟩ := keepE hb1 w.heap.size (by first | assumption | (simp; done) | (simp; omega) | omega); have hx1 : Ext w w1 := Ext.trans (by repeat (first | with_reducible exact Ext.refl _ | with_reducible assumption | (with_reducible refine Ext.setCell ?_ ?_ _; rotate_left; focus (first | exact Nat.le_refl _ | exact Nat.le_add_right _ _ | (simp; done) | (simp; omega) | omega)) | with_reducible refine Ext.alloc ?_ _ | with_reducible refine Ext.drew ?_ | with_reducible refine Ext.drewN ?_ _ | (with_reducible refine Ext.trans ?_ (by with_reducible assumption)))) hb1)
            go_ret
            exact ⟨ret_bool (by rw [show holdOk x = false by (rw [Bool.eq_false_iff]; intro h; obtain ⟨h1, h2, h3, h4, h5, h6, h7, _, h8, h9, h10⟩ := (holdOk_iff x).1 h; omega)]; rfl), by repeat (first | with_reducible exact Ext.refl _ | with_reducible assumption | (with_reducible refine Ext.setCell ?_ ?_ _; rotate_left; focus (first | exact Nat.le_refl _ | exact Nat.le_add_right _ _ | (simp; done) | (simp; omega) | omega)) | with_reducible refine Ext.alloc ?_ _ | with_reducible refine Ext.drew ?_ | with_reducible refine Ext.drewN ?_ _ | (with_reducible refine Ext.trans ?_ (by with_reducible assumption)))⟩
          have d13 : decide (1048576 < x.day1) = false := by simpa using c13
          go_enter Try.func60, Try.ntmps60
          go_wp2_with (go_at_call 25; (with_reducible refine (identity_ValidId x.who _ hs H10.out).mono ?_); rintro e w1 ⟨rfl, hb1⟩; obtain ⟨k0, f0, z0⟩ := keepE hb1 w.heap.size (by first | assumption | (simp; done) | (simp; omega) | omega); have hx1 : Ext w w1 := Ext.trans (by repeat (first | with_reducible exact Ext.refl _ | with_reducible assumption | (with_reducible refine Ext.setCell ?_ ?_ _; rotate_left; focus (first | exact Nat.le_refl _ | exact Nat.le_add_right _ _ | (simp; done) | (simp; omega) | omega)) | with_reducible refine Ext.alloc ?_ _ | with_reducible refine Ext.drew ?_ | with_reducible refine Ext.drewN ?_ _ | (with_reducible refine Ext.trans ?_ (by with_reducible assumption)))) hb1)
          go_ret
          have hf : holdOk x = true := (holdOk_iff x).2 ⟨by omega, by omega, by omega, by omega, HOK.out, by omega, by omega, HW.out, by omega, by omega, by omega⟩
          exact ⟨ret_bool (by rw [hf]; rfl), by repeat (first | with_reducible exact Ext.refl _ | with_reducible assumption | (with_reducible refine Ext.setCell ?_ ?_ _; rotate_left; focus (first | exact Nat.le_refl _ | exact Nat.le_add_right _ _ | (simp; done) | (simp; omega) | omega)) | with_reducible refine Ext.alloc ?_ _ | with_reducible refine Ext.drew ?_ | with_reducible refine Ext.drewN ?_ _ | (with_reducible refine Ext.trans ?_ (by with_reducible assumption)))⟩
      · have e9 := eqlNo c9
        have hw : x.who = noId ∨ validId x.who = true := .inl (by simpa using c9)
        have HW := Lib.hid hw
        have H10 := Lib.hid (rfl : validId x.who = validId x.who)
        clear hw c9
        by_cases c11 : x.day0 < 0
        · go_enter Try.func60, Try.ntmps60
          go_wp2_with (go_at_call 25; (with_reducible refine (identity_ValidId x.who _ hs H10.out).mono ?_); rintro e w1 ⟨rfl, hb1⟩; obtain ⟨k0, f0, z0⟩ := keepE hb1 w.heap.size (by first | assumption | (simp; done) | (simp; omega) | omega); have hx1 : Ext w w1 := Ext.trans (by repeat (first | with_reducible exact Ext.refl _ | with_reducible assumption | (with_reducible refine Ext.setCell ?_ ?_ _; rotate_left; focus (first | exact Nat.le_refl _ | exact Nat.le_add_right _ _ | (simp; done) | (simp; omega) | omega)) | with_reducible refine Ext.alloc ?_ _ | with_reducible refine Ext.drew ?_ | with_reducible refine Ext.drewN ?_ _ | (with_reducible refine Ext.trans ?_ (by with_reducible assumption)))) hb1)
          go_ret
          exact ⟨ret_bool (by rw [show holdOk x = false by (rw [Bool.eq_false_iff]; intro h; obtain ⟨h1, h2, h3, h4, h5, h6, h7, _, h8, h9, h10⟩ := (holdOk_iff x).1 h; omega)]; rfl), by repeat (first | with_reducible exact Ext.refl _ | with_reducible assumption | (with_reducible refine Ext.setCell ?_ ?_ _; rotate_left; focus (first | exact Nat.le_refl _ | exact Nat.le_add_right _ _ | (simp; done) | (simp; omega) | omega)) | with_reducible refine Ext.alloc ?_ _ | with_reducible refine Ext.drew ?_ | with_reducible refine Ext.drewN ?_ _ | (with_reducible refine Ext.trans ?_ (by with_reducible assumption)))⟩
        have d11 : decide (x.day0 < 0) = false := by simpa using c11
        by_cases c12 : x.day1 ≤ x.day0
        · go_enter Try.func60, Try.ntmps60
          go_wp2_with (go_at_call 25; (with_reducible refine (identity_ValidId x.who _ hs H10.out).mono ?_); rintro e w1 ⟨rfl, hb1⟩; obtain ⟨k0, f0, z0⟩ := keepE hb1 w.heap.size (by first | assumption | (simp; done) | (simp; omega) | omega); have hx1 : Ext w w1 := Ext.trans (by repeat (first | with_reducible exact Ext.refl _ | with_reducible assumption | (with_reducible refine Ext.setCell ?_ ?_ _; rotate_left; focus (first | exact Nat.le_refl _ | exact Nat.le_add_right _ _ | (simp; done) | (simp; omega) | omega)) | with_reducible refine Ext.alloc ?_ _ | with_reducible refine Ext.drew ?_ | with_reducible refine Ext.drewN ?_ _ | (with_reducible refine Ext.trans ?_ (by with_reducible assumption)))) hb1)
          go_ret
          exact ⟨ret_bool (by rw [show holdOk x = false by (rw [Bool.eq_false_iff]; intro h; obtain ⟨h1, h2, h3, h4, h5, h6, h7, _, h8, h9, h10⟩ := (holdOk_iff x).1 h; omega)]; rfl), by repeat (first | with_reducible exact Ext.refl _ | with_reducible assumption | (with_reducible refine Ext.setCell ?_ ?_ _; rotate_left; focus (first | exact Nat.le_refl _ | exact Nat.le_add_right _ _ | (simp; done) | (simp; omega) | omega)) | with_reducible refine Ext.alloc ?_ _ | with_reducible refine Ext.drew ?_ | with_reducible refine Ext.drewN ?_ _ | (with_reducible refine Ext.trans ?_ (by with_reducible assumption)))⟩
        have d12 : decide (x.day1 ≤ x.day0) = false := by simpa using c12
        by_cases c13 : 1048576 < x.day1
        · go_enter Try.func60, Try.ntmps60
          go_wp2_with (go_at_call 25; (with_reducible refine (identity_ValidId x.who _ hs H10.out).mono ?_); rintro e w1 ⟨rfl, hb1⟩; obtain ⟨k0, f0, z0⟩ := keepE hb1 w.heap.size (by first | assumption | (simp; done) | (simp; omega) | omega); have hx1 : Ext w w1 := Ext.trans (by repeat (first | with_reducible exact Ext.refl _ | with_reducible assumption | (with_reducible refine Ext.setCell ?_ ?_ _; rotate_left; focus (first | exact Nat.le_refl _ | exact Nat.le_add_right _ _ | (simp; done) | (simp; omega) | omega)) | with_reducible refine Ext.alloc ?_ _ | with_reducible refine Ext.drew ?_ | with_reducible refine Ext.drewN ?_ _ | (with_reducible refine Ext.trans ?_ (by with_reducible assumption)))) hb1)
          go_ret
          exact ⟨ret_bool (by rw [show holdOk x = false by (rw [Bool.eq_false_iff]; intro h; obtain ⟨h1, h2, h3, h4, h5, h6, h7, _, h8, h9, h10⟩ := (holdOk_iff x).1 h; omega)]; rfl), by repeat (first | with_reducible exact Ext.refl _ | with_reducible assumption | (with_reducible refine Ext.setCell ?_ ?_ _; rotate_left; focus (first | exact Nat.le_refl _ | exact Nat.le_add_right _ _ | (simp; done) | (simp; omega) | omega)) | with_reducible refine Ext.alloc ?_ _ | with_reducible refine Ext.drew ?_ | with_reducible refine Ext.drewN ?_ _ | (with_reducible refine Ext.trans ?_ (by with_reducible assumption)))⟩
        have d13 : decide (1048576 < x.day1) = false := by simpa using c13
        go_enter Try.func60, Try.ntmps60
        go_wp2_with (go_at_call 25; (with_reducible refine (identity_ValidId x.who _ hs H10.out).mono ?_); rintro e w1 ⟨rfl, hb1⟩; obtain ⟨k0, f0, z0⟩ := keepE hb1 w.heap.size (by first | assumption | (simp; done) | (simp; omega) | omega); have hx1 : Ext w w1 := Ext.trans (by repeat (first | with_reducible exact Ext.refl _ | with_reducible assumption | (with_reducible refine Ext.setCell ?_ ?_ _; rotate_left; focus (first | exact Nat.le_refl _ | exact Nat.le_add_right _ _ | (simp; done) | (simp; omega) | omega)) | with_reducible refine Ext.alloc ?_ _ | with_reducible refine Ext.drew ?_ | with_reducible refine Ext.drewN ?_ _ | (with_reducible refine Ext.trans ?_ (by with_reducible assumption)))) hb1)
        go_ret
        have hf : holdOk x = true := (holdOk_iff x).2 ⟨by omega, by omega, by omega, by omega, HOK.out, by omega, by omega, HW.out, by omega, by omega, by omega⟩
        exact ⟨ret_bool (by rw [hf]; rfl), by repeat (first | with_reducible exact Ext.refl _ | with_reducible assumption | (with_reducible refine Ext.setCell ?_ ?_ _; rotate_left; focus (first | exact Nat.le_refl _ | exact Nat.le_add_right _ _ | (simp; done) | (simp; omega) | omega)) | with_reducible refine Ext.alloc ?_ _ | with_reducible refine Ext.drew ?_ | with_reducible refine Ext.drewN ?_ _ | (with_reducible refine Ext.trans ?_ (by with_reducible assumption)))⟩
    · have e6 : (x.column == -1) = false := by simpa using c6
      go_enter Try.func60, Try.ntmps60
      go_wp2_with fail
      go_ret
      exact ⟨ret_bool (by simp [holdOk, c5, c6]), by repeat (first | with_reducible exact Ext.refl _ | with_reducible assumption | (with_reducible refine Ext.setCell ?_ ?_ _; rotate_left; focus (first | exact Nat.le_refl _ | exact Nat.le_add_right _ _ | (simp; done) | (simp; omega) | omega)) | with_reducible refine Ext.alloc ?_ _ | with_reducible refine Ext.drew ?_ | with_reducible refine Ext.drewN ?_ _ | (with_reducible refine Ext.trans ?_ (by with_reducible assumption)))⟩
  · have e5 : (x.table == -1) = false := by simpa using c5
    have hok : x.table = -1 → x.column = -1 := fun h => absurd h c5
    have HOK := Lib.hid hok
    clear hok
    by_cases c7 : x.seq < 1
    · go_enter Try.func60, Try.ntmps60
      go_wp2_with fail
      go_ret
      exact ⟨ret_bool (by rw [show holdOk x = false by (rw [Bool.eq_false_iff]; intro h; obtain ⟨h1, h2, h3, h4, h5, h6, h7, _, h8, h9, h10⟩ := (holdOk_iff x).1 h; omega)]; rfl), by repeat (first | with_reducible exact Ext.refl _ | with_reducible assumption | (with_reducible refine Ext.setCell ?_ ?_ _; rotate_left; focus (first | exact Nat.le_refl _ | exact Nat.le_add_right _ _ | (simp; done) | (simp; omega) | omega)) | with_reducible refine Ext.alloc ?_ _ | with_reducible refine Ext.drew ?_ | with_reducible refine Ext.drewN ?_ _ | (with_reducible refine Ext.trans ?_ (by with_reducible assumption)))⟩
    have d7 : decide (x.seq < 1) = false := by simpa using c7
    by_cases c8 : 1073741824 < x.seq
    · go_enter Try.func60, Try.ntmps60
      go_wp2_with fail
      go_ret
      exact ⟨ret_bool (by rw [show holdOk x = false by (rw [Bool.eq_false_iff]; intro h; obtain ⟨h1, h2, h3, h4, h5, h6, h7, _, h8, h9, h10⟩ := (holdOk_iff x).1 h; omega)]; rfl), by repeat (first | with_reducible exact Ext.refl _ | with_reducible assumption | (with_reducible refine Ext.setCell ?_ ?_ _; rotate_left; focus (first | exact Nat.le_refl _ | exact Nat.le_add_right _ _ | (simp; done) | (simp; omega) | omega)) | with_reducible refine Ext.alloc ?_ _ | with_reducible refine Ext.drew ?_ | with_reducible refine Ext.drewN ?_ _ | (with_reducible refine Ext.trans ?_ (by with_reducible assumption)))⟩
    have d8 : decide (1073741824 < x.seq) = false := by simpa using c8
    cases c9 : decide (x.who = noId)
    · have e9 := eqlNo c9
      cases c10 : validId x.who
      · have H9 := Lib.hid c9
        have H10 := Lib.hid c10
        clear c9 c10
        go_enter Try.func60, Try.ntmps60
        go_wp2_with (go_at_call 25; (with_reducible refine (identity_ValidId x.who _ hs H10.out).mono ?_); rintro e w1 ⟨rfl, hb1⟩; obtain ⟨k0, f0, z0⟩ := keepE hb1 w.heap.size (by first | assumption | (simp; done) | (simp; omega) | omega); have hx1 : Ext w w1 := Ext.trans (by repeat (first | with_reducible exact Ext.refl _ | with_reducible assumption | (with_reducible refine Ext.setCell ?_ ?_ _; rotate_left; focus (first | exact Nat.le_refl _ | exact Nat.le_add_right _ _ | (simp; done) | (simp; omega) | omega)) | with_reducible refine Ext.alloc ?_ _ | with_reducible refine Ext.drew ?_ | with_reducible refine Ext.drewN ?_ _ | (with_reducible refine Ext.trans ?_ (by with_reducible assumption)))) hb1)
        go_ret
        exact ⟨ret_bool (by simp [holdOk, H9.out, H10.out]), by repeat (first | with_reducible exact Ext.refl _ | with_reducible assumption | (with_reducible refine Ext.setCell ?_ ?_ _; rotate_left; focus (first | exact Nat.le_refl _ | exact Nat.le_add_right _ _ | (simp; done) | (simp; omega) | omega)) | with_reducible refine Ext.alloc ?_ _ | with_reducible refine Ext.drew ?_ | with_reducible refine Ext.drewN ?_ _ | (with_reducible refine Ext.trans ?_ (by with_reducible assumption)))⟩
      · have hw : x.who = noId ∨ validId x.who = true := .inr c10
        have HW := Lib.hid hw
        have H9 := Lib.hid c9
        have H10 := Lib.hid c10
        clear hw c9 c10
        by_cases c11 : x.day0 < 0
        · go_enter Try.func60, Try.ntmps60
          go_wp2_with (go_at_call 25; (with_reducible refine (identity_ValidId x.who _ hs H10.out).mono ?_); rintro e w1 ⟨rfl, hb1⟩; obtain ⟨k0, f0, z0⟩ := keepE hb1 w.heap.size (by first | assumption | (simp; done) | (simp; omega) | omega); have hx1 : Ext w w1 := Ext.trans (by repeat (first | with_reducible exact Ext.refl _ | with_reducible assumption | (with_reducible refine Ext.setCell ?_ ?_ _; rotate_left; focus (first | exact Nat.le_refl _ | exact Nat.le_add_right _ _ | (simp; done) | (simp; omega) | omega)) | with_reducible refine Ext.alloc ?_ _ | with_reducible refine Ext.drew ?_ | with_reducible refine Ext.drewN ?_ _ | (with_reducible refine Ext.trans ?_ (by with_reducible assumption)))) hb1)
          go_ret
          exact ⟨ret_bool (by rw [show holdOk x = false by (rw [Bool.eq_false_iff]; intro h; obtain ⟨h1, h2, h3, h4, h5, h6, h7, _, h8, h9, h10⟩ := (holdOk_iff x).1 h; omega)]; rfl), by repeat (first | with_reducible exact Ext.refl _ | with_reducible assumption | (with_reducible refine Ext.setCell ?_ ?_ _; rotate_left; focus (first | exact Nat.le_refl _ | exact Nat.le_add_right _ _ | (simp; done) | (simp; omega) | omega)) | with_reducible refine Ext.alloc ?_ _ | with_reducible refine Ext.drew ?_ | with_reducible refine Ext.drewN ?_ _ | (with_reducible refine Ext.trans ?_ (by with_reducible assumption)))⟩
        have d11 : decide (x.day0 < 0) = false := by simpa using c11
        by_cases c12 : x.day1 ≤ x.day0
        · go_enter Try.func60, Try.ntmps60
          go_wp2_with (go_at_call 25; (with_reducible refine (identity_ValidId x.who _ hs H10.out).mono ?_); rintro e w1 ⟨rfl, hb1⟩; obtain ⟨k0, f0, z0⟩ := keepE hb1 w.heap.size (by first | assumption | (simp; done) | (simp; omega) | omega); have hx1 : Ext w w1 := Ext.trans (by repeat (first | with_reducible exact Ext.refl _ | with_reducible assumption | (with_reducible refine Ext.setCell ?_ ?_ _; rotate_left; focus (first | exact Nat.le_refl _ | exact Nat.le_add_right _ _ | (simp; done) | (simp; omega) | omega)) | with_reducible refine Ext.alloc ?_ _ | with_reducible refine Ext.drew ?_ | with_reducible refine Ext.drewN ?_ _ | (with_reducible refine Ext.trans ?_ (by with_reducible assumption)))) hb1)
          go_ret
          exact ⟨ret_bool (by rw [show holdOk x = false by (rw [Bool.eq_false_iff]; intro h; obtain ⟨h1, h2, h3, h4, h5, h6, h7, _, h8, h9, h10⟩ := (holdOk_iff x).1 h; omega)]; rfl), by repeat (first | with_reducible exact Ext.refl _ | with_reducible assumption | (with_reducible refine Ext.setCell ?_ ?_ _; rotate_left; focus (first | exact Nat.le_refl _ | exact Nat.le_add_right _ _ | (simp; done) | (simp; omega) | omega)) | with_reducible refine Ext.alloc ?_ _ | with_reducible refine Ext.drew ?_ | with_reducible refine Ext.drewN ?_ _ | (with_reducible refine Ext.trans ?_ (by with_reducible assumption)))⟩
        have d12 : decide (x.day1 ≤ x.day0) = false := by simpa using c12
        by_cases c13 : 1048576 < x.day1
        · go_enter Try.func60, Try.ntmps60
          go_wp2_with (go_at_call 25; (with_reducible refine (identity_ValidId x.who _ hs H10.out).mono ?_); rintro e w1 ⟨rfl, hb1⟩; obtain ⟨k0, f0, z0⟩ := keepE hb1 w.heap.size (by first | assumption | (simp; done) | (simp; omega) | omega); have hx1 : Ext w w1 := Ext.trans (by repeat (first | with_reducible exact Ext.refl _ | with_reducible assumption | (with_reducible refine Ext.setCell ?_ ?_ _; rotate_left; focus (first | exact Nat.le_refl _ | exact Nat.le_add_right _ _ | (simp; done) | (simp; omega) | omega)) | with_reducible refine Ext.alloc ?_ _ | with_reducible refine Ext.drew ?_ | with_reducible refine Ext.drewN ?_ _ | (with_reducible refine Ext.trans ?_ (by with_reducible assumption)))) hb1)
          go_ret
          exact ⟨ret_bool (by rw [show holdOk x = false by (rw [Bool.eq_false_iff]; intro h; obtain ⟨h1, h2, h3, h4, h5, h6, h7, _, h8, h9, h10⟩ := (holdOk_iff x).1 h; omega)]; rfl), by repeat (first | with_reducible exact Ext.refl _ | with_reducible assumption | (with_reducible refine Ext.setCell ?_ ?_ _; rotate_left; focus (first | exact Nat.le_refl _ | exact Nat.le_add_right _ _ | (simp; done) | (simp; omega) | omega)) | with_reducible refine Ext.alloc ?_ _ | with_reducible refine Ext.drew ?_ | with_reducible refine Ext.drewN ?_ _ | (with_reducible refine Ext.trans ?_ (by with_reducible assumption)))⟩
        have d13 : decide (1048576 < x.day1) = false := by simpa using c13
        go_enter Try.func60, Try.ntmps60
        go_wp2_with (go_at_call 25; (with_reducible refine (identity_ValidId x.who _ hs H10.out).mono ?_); rintro e w1 ⟨rfl, hb1⟩; obtain ⟨k0, f0, z0⟩ := keepE hb1 w.heap.size (by first | assumption | (simp; done) | (simp; omega) | omega); have hx1 : Ext w w1 := Ext.trans (by repeat (first | with_reducible exact Ext.refl _ | with_reducible assumption | (with_reducible refine Ext.setCell ?_ ?_ _; rotate_left; focus (first | exact Nat.le_refl _ | exact Nat.le_add_right _ _ | (simp; done) | (simp; omega) | omega)) | with_reducible refine Ext.alloc ?_ _ | with_reducible refine Ext.drew ?_ | with_reducible refine Ext.drewN ?_ _ | (with_reducible refine Ext.trans ?_ (by with_reducible assumption)))) hb1)
        go_ret
        have hf : holdOk x = true := (holdOk_iff x).2 ⟨by omega, by omega, by omega, by omega, HOK.out, by omega, by omega, HW.out, by omega, by omega, by omega⟩
        exact ⟨ret_bool (by rw [hf]; rfl), by repeat (first | with_reducible exact Ext.refl _ | with_reducible assumption | (with_reducible refine Ext.setCell ?_ ?_ _; rotate_left; focus (first | exact Nat.le_refl _ | exact Nat.le_add_right _ _ | (simp; done) | (simp; omega) | omega)) | with_reducible refine Ext.alloc ?_ _ | with_reducible refine Ext.drew ?_ | with_reducible refine Ext.drewN ?_ _ | (with_reducible refine Ext.trans ?_ (by with_reducible assumption)))⟩
    · have e9 := eqlNo c9
      have hw : x.who = noId ∨ validId x.who = true := .inl (by simpa using c9)
      have HW := Lib.hid hw
      have H10 := Lib.hid (rfl : validId x.who = validId x.who)
      clear hw c9
      by_cases c11 : x.day0 < 0
      · go_enter Try.func60, Try.ntmps60
        go_wp2_with (go_at_call 25; (with_reducible refine (identity_ValidId x.who _ hs H10.out).mono ?_); rintro e w1 ⟨rfl, hb1⟩; obtain ⟨k0, f0, z0⟩ := keepE hb1 w.heap.size (by first | assumption | (simp; done) | (simp; omega) | omega); have hx1 : Ext w w1 := Ext.trans (by repeat (first | with_reducible exact Ext.refl _ | with_reducible assumption | (with_reducible refine Ext.setCell ?_ ?_ _; rotate_left; focus (first | exact Nat.le_refl _ | exact Nat.le_add_right _ _ | (simp; done) | (simp; omega) | omega)) | with_reducible refine Ext.alloc ?_ _ | with_reducible refine Ext.drew ?_ | with_reducible refine Ext.drewN ?_ _ | (with_reducible refine Ext.trans ?_ (by with_reducible assumption)))) hb1)
        go_ret
        exact ⟨ret_bool (by rw [show holdOk x = false by (rw [Bool.eq_false_iff]; intro h; obtain ⟨h1, h2, h3, h4, h5, h6, h7, _, h8, h9, h10⟩ := (holdOk_iff x).1 h; omega)]; rfl), by repeat (first | with_reducible exact Ext.refl _ | with_reducible assumption | (with_reducible refine Ext.setCell ?_ ?_ _; rotate_left; focus (first | exact Nat.le_refl _ | exact Nat.le_add_right _ _ | (simp; done) | (simp; omega) | omega)) | with_reducible refine Ext.alloc ?_ _ | with_reducible refine Ext.drew ?_ | with_reducible refine Ext.drewN ?_ _ | (with_reducible refine Ext.trans ?_ (by with_reducible assumption)))⟩
      have d11 : decide (x.day0 < 0) = false := by simpa using c11
      by_cases c12 : x.day1 ≤ x.day0
      · go_enter Try.func60, Try.ntmps60
        go_wp2_with (go_at_call 25; (with_reducible refine (identity_ValidId x.who _ hs H10.out).mono ?_); rintro e w1 ⟨rfl, hb1⟩; obtain ⟨k0, f0, z0⟩ := keepE hb1 w.heap.size (by first | assumption | (simp; done) | (simp; omega) | omega); have hx1 : Ext w w1 := Ext.trans (by repeat (first | with_reducible exact Ext.refl _ | with_reducible assumption | (with_reducible refine Ext.setCell ?_ ?_ _; rotate_left; focus (first | exact Nat.le_refl _ | exact Nat.le_add_right _ _ | (simp; done) | (simp; omega) | omega)) | with_reducible refine Ext.alloc ?_ _ | with_reducible refine Ext.drew ?_ | with_reducible refine Ext.drewN ?_ _ | (with_reducible refine Ext.trans ?_ (by with_reducible assumption)))) hb1)
        go_ret
        exact ⟨ret_bool (by rw [show holdOk x = false by (rw [Bool.eq_false_iff]; intro h; obtain ⟨h1, h2, h3, h4, h5, h6, h7, _, h8, h9, h10⟩ := (holdOk_iff x).1 h; omega)]; rfl), by repeat (first | with_reducible exact Ext.refl _ | with_reducible assumption | (with_reducible refine Ext.setCell ?_ ?_ _; rotate_left; focus (first | exact Nat.le_refl _ | exact Nat.le_add_right _ _ | (simp; done) | (simp; omega) | omega)) | with_reducible refine Ext.alloc ?_ _ | with_reducible refine Ext.drew ?_ | with_reducible refine Ext.drewN ?_ _ | (with_reducible refine Ext.trans ?_ (by with_reducible assumption)))⟩
      have d12 : decide (x.day1 ≤ x.day0) = false := by simpa using c12
      by_cases c13 : 1048576 < x.day1
      · go_enter Try.func60, Try.ntmps60
        go_wp2_with (go_at_call 25; (with_reducible refine (identity_ValidId x.who _ hs H10.out).mono ?_); rintro e w1 ⟨rfl, hb1⟩; obtain ⟨k0, f0, z0⟩ := keepE hb1 w.heap.size (by first | assumption | (simp; done) | (simp; omega) | omega); have hx1 : Ext w w1 := Ext.trans (by repeat (first | with_reducible exact Ext.refl _ | with_reducible assumption | (with_reducible refine Ext.setCell ?_ ?_ _; rotate_left; focus (first | exact Nat.le_refl _ | exact Nat.le_add_right _ _ | (simp; done) | (simp; omega) | omega)) | with_reducible refine Ext.alloc ?_ _ | with_reducible refine Ext.drew ?_ | with_reducible refine Ext.drewN ?_ _ | (with_reducible refine Ext.trans ?_ (by with_reducible assumption)))) hb1)
        go_ret
        exact ⟨ret_bool (by rw [show holdOk x = false by (rw [Bool.eq_false_iff]; intro h; obtain ⟨h1, h2, h3, h4, h5, h6, h7, _, h8, h9, h10⟩ := (holdOk_iff x).1 h; omega)]; rfl), by repeat (first | with_reducible exact Ext.refl _ | with_reducible assumption | (with_reducible refine Ext.setCell ?_ ?_ _; rotate_left; focus (first | exact Nat.le_refl _ | exact Nat.le_add_right _ _ | (simp; done) | (simp; omega) | omega)) | with_reducible refine Ext.alloc ?_ _ | with_reducible refine Ext.drew ?_ | with_reducible refine Ext.drewN ?_ _ | (with_reducible refine Ext.trans ?_ (by with_reducible assumption)))⟩
      have d13 : decide (1048576 < x.day1) = false := by simpa using c13
      go_enter Try.func60, Try.ntmps60
      go_wp2_with (go_at_call 25; (with_reducible refine (identity_ValidId x.who _ hs H10.out).mono ?_); rintro e w1 ⟨rfl, hb1⟩; obtain ⟨k0, f0, z0⟩ := keepE hb1 w.heap.size (by first | assumption | (simp; done) | (simp; omega) | omega); have hx1 : Ext w w1 := Ext.trans (by repeat (first | with_reducible exact Ext.refl _ | with_reducible assumption | (with_reducible refine Ext.setCell ?_ ?_ _; rotate_left; focus (first | exact Nat.le_refl _ | exact Nat.le_add_right _ _ | (simp; done) | (simp; omega) | omega)) | with_reducible refine Ext.alloc ?_ _ | with_reducible refine Ext.drew ?_ | with_reducible refine Ext.drewN ?_ _ | (with_reducible refine Ext.trans ?_ (by with_reducible assumption)))) hb1)
      go_ret
      have hf : holdOk x = true := (holdOk_iff x).2 ⟨by omega, by omega, by omega, by omega, HOK.out, by omega, by omega, HW.out, by omega, by omega, by omega⟩
      exact ⟨ret_bool (by rw [hf]; rfl), by repeat (first | with_reducible exact Ext.refl _ | with_reducible assumption | (with_reducible refine Ext.setCell ?_ ?_ _; rotate_left; focus (first | exact Nat.le_refl _ | exact Nat.le_add_right _ _ | (simp; done) | (simp; omega) | omega)) | with_reducible refine Ext.alloc ?_ _ | with_reducible refine Ext.drew ?_ | with_reducible refine Ext.drewN ?_ _ | (with_reducible refine Ext.trans ?_ (by with_reducible assumption)))⟩
theorem hold_invalidB (x : Hold) (w : World) (hs : x.who.ns.size ≤ 1000000) {r : Bool} (hr : holdOk x = r) :
    Calls Try.prog 60 #[.agg #[.int .i64 x.table, .int .i64 x.column, .string x.who.ns, .int .i64 x.who.val.kind, .int .i64 x.who.val.num, .string x.who.val.text, .int .i64 x.seq, .int .i64 x.day0, .int .i64 x.day1]] w fun e w' => e = .returned (.bool (!r)) ∧ Ext w w' := by
  subst hr
  exact hold_invalid x w hs
set_option maxRecDepth 100000 in
set_option maxHeartbeats 1000000 in
theorem index_hold (A : Option Addr) (c : Nat) (l : List Hold) (w : World) (hl : SliceIs w w.heap.size Hold.cells 9 A l) (hn : l.length ≤ 1000000) (hs : SaneH l) :
    Calls Try.prog 83 #[.slice A l.length c, .func (.func 60) #[] #[]] w fun e w' =>
      (∃ k : Int, e = .returned (.int .i64 k) ∧ (0 ≤ k ↔ l.all holdOk = false)) ∧ Below w.heap.size w w' := by
  have HS := Lib.hid hs
  clear hs
  go_enter Try.func83, Try.ntmps83
  go_wp2
  go_loopw [8] (fun vi wr => ∃ m : Nat, m ≤ l.length ∧ vi = .int .i64 m ∧ Below w.heap.size w wr ∧ (∀ i (h : i < l.length), i < m → holdOk l[i] = true)) (fun vi _ => l.length - (intOf vi).toNat)
  case atStart => exact ⟨0, Nat.zero_le _, rfl, by repeat (first | with_reducible exact Below.refl _ _ | with_reducible assumption | (with_reducible refine Below.setCell ?_ ?_ _; rotate_left; focus (first | exact Nat.le_refl _ | exact Nat.le_add_right _ _ | (simp; done) | (simp; omega) | omega)) | (with_reducible refine Below.alloc ?_ ?_ _; rotate_left; focus (first | exact Nat.le_refl _ | exact Nat.le_add_right _ _ | (simp; done) | (simp; omega) | omega)) | with_reducible refine Below.drew ?_ | with_reducible refine below_drewN ?_ _ | (with_reducible refine below_nextN ?_ (by with_reducible assumption) ?_; rotate_left; focus (first | exact Nat.le_refl _ | exact Nat.le_add_right _ _ | (simp; done) | (simp; omega) | omega))), fun i _ h => by omega⟩
  case round =>
    obtain ⟨m, hm, rfl, hbw, hok⟩ := hrel
    have HOK := Lib.hid hok
    clear hok
    by_cases hlt : m < l.length
    · obtain ⟨b, o, rfl, hb, hc⟩ := (hl.below hbw).get hlt
      obtain ⟨h0, h1, ⟨h2, h3, h4, h5⟩, h6, h7, h8⟩ := Hold.cells9 hc
      have hsm := HS.out l[m] (List.getElem_mem hlt)
      clear hc
      cases hk : holdOk l[m]
      · have HK := Lib.hid hk
        clear hk
        go_wp2_with (go_at_call 60; (with_reducible refine (hold_invalidB l[m] _ hsm HK.out).mono ?_); rintro e w1 ⟨rfl, hb1⟩; have hx1 : Below w.heap.size w w1 := below_nextN hbw hb1.1 hbw.size)
        go_ret
        refine ⟨⟨_, rfl, fun _ => ?_, fun _ => by omega⟩, hx1⟩
        rw [List.all_eq_false]
        exact ⟨l[m], List.getElem_mem hlt, by rw [HK.out]; decide⟩
      · have HK := Lib.hid hk
        clear hk
        go_wp2_with (go_at_call 60; (with_reducible refine (hold_invalidB l[m] _ hsm HK.out).mono ?_); rintro e w1 ⟨rfl, hb1⟩; have hx1 : Below w.heap.size w w1 := below_nextN hbw hb1.1 hbw.size)
        go_roundw
        case rel => exact ⟨m + 1, by omega, by go_num, hx1, fun i h hi => by
          rcases Nat.lt_or_ge i m with h1 | h1
          · exact HOK.out i h h1
          · obtain rfl : i = m := by omega
            exact HK.out⟩
        case measure => simp [intOf]; omega
    · have hlt' : decide (m < l.length) = false := by simpa using hlt
      go_wp2_with fail
      go_ret
      refine ⟨⟨_, rfl, fun h => by omega, fun h => ?_⟩, hbw⟩
      rw [List.all_eq_false] at h
      obtain ⟨x, hx, hxx⟩ := h
      obtain ⟨i, hi, rfl⟩ := List.getElem_of_mem hx
      exact absurd (HOK.out i hi (by omega)) hxx
set_option maxRecDepth 100000 in
theorem contains_hold (A : Option Addr) (c : Nat) (l : List Hold) (w : World) (hl : SliceIs w w.heap.size Hold.cells 9 A l) (hn : l.length ≤ 1000000) (hs : SaneH l) :
    Calls Try.prog 59 #[.slice A l.length c, .func (.func 60) #[] #[]] w fun e w' =>
      e = .returned (.bool (!l.all holdOk)) ∧ Below w.heap.size w w' := by
  have HL := Lib.hid hl
  have HS := Lib.hid hs
  clear hl hs
  go_enter Try.func59, Try.ntmps59
  go_wp2_with fail
  with_reducible refine (index_hold A c l _ HL.out hn HS.out).mono ?_
  rintro e w1 ⟨⟨k, rfl, hk⟩, hb1⟩
  have HK := Lib.hid hk
  clear hk
  go_wp2_with fail
  go_ret
  refine ⟨ret_bool ?_, hb1⟩
  cases h : l.all holdOk
  · simpa using HK.out.2 h
  · have h1 : ¬ 0 ≤ k := fun h0 => by rw [HK.out.1 h0] at h; cases h
    simpa using h1
theorem idle_HValid (w : World) : CallsD Try.prog 58 #[] .returning w fun e u' w' => e = .returned (.tuple #[]) ∧ u' = .returning ∧ w' = w := by
  refine callsD_of_wpS Try.func58 rfl fun c₀ cs hu => ?_
  apply wpS_region
  cases c₀
  simp_all [wpOpsS, go_sem, recoverD, Try.ntmps58, bodyPostS, results, Try.results58]
set_option maxRecDepth 100000 in
theorem hold_Valid (A : Option Addr) (c : Nat) (l : List Hold) (w : World) (hl : SliceIs w w.heap.size Hold.cells 9 A l) (hn : l.length ≤ 1000000) (hs : SaneH l) :
    Calls Try.prog 30 #[.slice A l.length c] w fun e w' => e = .returned (.bool (validHolds l)) ∧ Below w.heap.size w w' := by
  have HL := Lib.hid hl
  have HS := Lib.hid hs
  clear hl hs
  by_cases h32 : l.length ≤ 32
  · go_enter_defers Try.func30, Try.ntmps30
    go_wp2_with (go_at_call 59; (with_reducible refine (contains_hold A c l _ HL.out hn HS.out).mono ?_); rintro e w1 ⟨rfl, hb1⟩)
    refine leaves_cons (f := 58) (args := #[]) (by simp) (by simp [go_sem]) ?_; refine (idle_HValid _).mono ?_; rintro e u' w'' ⟨rfl, rfl, rfl⟩; refine ⟨_, results_tmp rfl _ _ _, ?_⟩
    exact ⟨ret_bool (by rw [validHolds, decide_eq_true h32]; simp), hb1⟩
  · have h32' : decide (l.length ≤ 32) = false := by simpa using h32
    go_enter_defers Try.func30, Try.ntmps30
    go_wp2_with fail
    refine leaves_cons (f := 58) (args := #[]) (by simp) (by simp [go_sem]) ?_; refine (idle_HValid _).mono ?_; rintro e u' w'' ⟨rfl, rfl, rfl⟩; refine ⟨_, results_tmp rfl _ _ _, ?_⟩
    exact ⟨ret_bool (by rw [validHolds, h32']; rfl), by repeat (first | with_reducible exact Below.refl _ _ | with_reducible assumption | (with_reducible refine Below.setCell ?_ ?_ _; rotate_left; focus (first | exact Nat.le_refl _ | exact Nat.le_add_right _ _ | (simp; done) | (simp; omega) | omega)) | (with_reducible refine Below.alloc ?_ ?_ _; rotate_left; focus (first | exact Nat.le_refl _ | exact Nat.le_add_right _ _ | (simp; done) | (simp; omega) | omega)) | with_reducible refine Below.drew ?_ | with_reducible refine below_drewN ?_ _ | (with_reducible refine below_nextN ?_ (by with_reducible assumption) ?_; rotate_left; focus (first | exact Nat.le_refl _ | exact Nat.le_add_right _ _ | (simp; done) | (simp; omega) | omega)))⟩
def activeOn (x : Hold) (day : Int) : Bool := decide (x.day0 ≤ day) && decide (day < x.day1)
set_option maxRecDepth 100000 in
theorem hold_Active (x : Hold) (day : Int) (w : World) :
    Calls Try.prog 62 #[.agg #[.int .i64 x.table, .int .i64 x.column, .string x.who.ns, .int .i64 x.who.val.kind, .int .i64 x.who.val.num, .string x.who.val.text, .int .i64 x.seq, .int .i64 x.day0, .int .i64 x.day1], .int .i64 day] w fun e w' => e = .returned (.bool (activeOn x day)) ∧ Ext w w' := by
  cases h : decide (x.day0 ≤ day)
  · go_enter Try.func62, Try.ntmps62
    go_wp2_with fail
    go_ret
    exact ⟨ret_bool (by simp [activeOn, h]), by repeat (first | with_reducible exact Ext.refl _ | with_reducible assumption | (with_reducible refine Ext.setCell ?_ ?_ _; rotate_left; focus (first | exact Nat.le_refl _ | exact Nat.le_add_right _ _ | (simp; done) | (simp; omega) | omega)) | with_reducible refine Ext.alloc ?_ _ | with_reducible refine Ext.drew ?_ | with_reducible refine Ext.drewN ?_ _ | (with_reducible refine Ext.trans ?_ (by with_reducible assumption)))⟩
  · go_enter Try.func62, Try.ntmps62
    go_wp2_with fail
    go_ret
    exact ⟨ret_bool (by simp [activeOn, h]), by repeat (first | with_reducible exact Ext.refl _ | with_reducible assumption | (with_reducible refine Ext.setCell ?_ ?_ _; rotate_left; focus (first | exact Nat.le_refl _ | exact Nat.le_add_right _ _ | (simp; done) | (simp; omega) | omega)) | with_reducible refine Ext.alloc ?_ _ | with_reducible refine Ext.drew ?_ | with_reducible refine Ext.drewN ?_ _ | (with_reducible refine Ext.trans ?_ (by with_reducible assumption)))⟩
end Go.Proofs.Ytoleifehijccmaa
