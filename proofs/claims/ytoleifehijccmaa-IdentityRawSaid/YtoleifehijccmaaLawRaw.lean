/-
  The law IdentityRaw.
-/
import Derived.Test.YtoleifehijccmaaLooks
namespace Go.Proofs.Ytoleifehijccmaa
set_option linter.unusedVariables false
open Go.RowKit

theorem identity_CompareR (a b : Ident) (w : World) {r : Int} (hr : cmpId a b = r) :
    Calls Try.prog 27 #[.agg #[.string a.ns, .int .i64 a.val.kind, .int .i64 a.val.num, .string a.val.text], .agg #[.string b.ns, .int .i64 b.val.kind, .int .i64 b.val.num, .string b.val.text]] w fun e w' => e = .returned (.int .i64 r) ∧ Ext w w' := by
  rw [← hr]
  exact identity_CompareId a b w
theorem ref16_CompareR (a b : Ident) (w : World) {r : Int} (hr : cmpId a b = r) :
    Calls Try.prog 28 #[.agg #[.string a.ns, .int .i64 a.val.kind, .int .i64 a.val.num, .string a.val.text], .agg #[.string b.ns, .int .i64 b.val.kind, .int .i64 b.val.num, .string b.val.text]] w fun e w' => e = .returned (.int .i64 r) ∧ Ext w w' := by
  rw [← hr]
  exact ref16_Compare a.ns b.ns a.val.kind a.val.num b.val.kind b.val.num a.val.text b.val.text w
set_option maxRecDepth 100000 in
set_option maxHeartbeats 4000000 in
theorem raw_walk (A : Option Addr) (c : Nat) (l : List Link) (a b : Ident) (w : World) (hl : SliceIs w w.heap.size Link.cells 10 A l) (hz1 : a.ns.size ≤ 140737488355328) (hz2 : a.val.text.size ≤ 140737488355328) :
    Calls Try.prog 7 #[.slice A l.length c, .agg #[.string a.ns, .int .i64 a.val.kind, .int .i64 a.val.num, .string a.val.text], .agg #[.string b.ns, .int .i64 b.val.kind, .int .i64 b.val.num, .string b.val.text]] w fun e w' => e = .returned (.bool true) ∧ Below w.heap.size w w' := by
  by_cases h1 : 80 < l.length
  · have h1' : decide (80 < l.length) = true := by simpa using h1
    go_enter Try.func7, Try.ntmps7
    go_wp2_with fail
    refine (awake_any _).mono ?_
    rintro e w1 ⟨rfl, hb1⟩
    go_wp2_with fail
    go_ret
    exact ⟨rfl, below_nextN (by repeat (first | with_reducible exact Below.refl _ _ | with_reducible assumption | (with_reducible refine Below.setCell ?_ ?_ _; rotate_left; focus (first | exact Nat.le_refl _ | exact Nat.le_add_right _ _ | (simp; done) | (simp; omega) | omega)) | (with_reducible refine Below.alloc ?_ ?_ _; rotate_left; focus (first | exact Nat.le_refl _ | exact Nat.le_add_right _ _ | (simp; done) | (simp; omega) | omega)) | with_reducible refine Below.drew ?_ | with_reducible refine below_drewN ?_ _ | (with_reducible refine below_nextN ?_ (by with_reducible assumption) ?_; rotate_left; focus (first | exact Nat.le_refl _ | exact Nat.le_add_right _ _ | (simp; done) | (simp; omega) | omega)))) hb1 (by first | exact Nat.le_refl _ | exact Nat.le_add_right _ _ | assumption | (simp; done) | (simp; omega) | omega)⟩
  have h1' : decide (80 < l.length) = false := by simpa using h1
  by_cases h2 : 200 < a.ns.size + a.val.text.size
  · have h2' : (200 : Int) < (a.ns.size : Int) + (a.val.text.size : Int) := by omega
    go_enter Try.func7, Try.ntmps7
    go_wp2_with fail
    refine (awake_any _).mono ?_
    rintro e w1 ⟨rfl, hb1⟩
    go_wp2_with fail
    go_ret
    exact ⟨rfl, below_nextN (by repeat (first | with_reducible exact Below.refl _ _ | with_reducible assumption | (with_reducible refine Below.setCell ?_ ?_ _; rotate_left; focus (first | exact Nat.le_refl _ | exact Nat.le_add_right _ _ | (simp; done) | (simp; omega) | omega)) | (with_reducible refine Below.alloc ?_ ?_ _; rotate_left; focus (first | exact Nat.le_refl _ | exact Nat.le_add_right _ _ | (simp; done) | (simp; omega) | omega)) | with_reducible refine Below.drew ?_ | with_reducible refine below_drewN ?_ _ | (with_reducible refine below_nextN ?_ (by with_reducible assumption) ?_; rotate_left; focus (first | exact Nat.le_refl _ | exact Nat.le_add_right _ _ | (simp; done) | (simp; omega) | omega)))) hb1 (by first | exact Nat.le_refl _ | exact Nat.le_add_right _ _ | assumption | (simp; done) | (simp; omega) | omega)⟩
  have h2' : decide ((200 : Int) < (a.ns.size : Int) + (a.val.text.size : Int)) = false := by simp; omega
  by_cases h3 : 100 < b.ns.size
  · have h3' : decide (100 < b.ns.size) = true := by simpa using h3
    go_enter Try.func7, Try.ntmps7
    go_wp2_with fail
    refine (awake_any _).mono ?_
    rintro e w1 ⟨rfl, hb1⟩
    go_wp2_with fail
    go_ret
    exact ⟨rfl, below_nextN (by repeat (first | with_reducible exact Below.refl _ _ | with_reducible assumption | (with_reducible refine Below.setCell ?_ ?_ _; rotate_left; focus (first | exact Nat.le_refl _ | exact Nat.le_add_right _ _ | (simp; done) | (simp; omega) | omega)) | (with_reducible refine Below.alloc ?_ ?_ _; rotate_left; focus (first | exact Nat.le_refl _ | exact Nat.le_add_right _ _ | (simp; done) | (simp; omega) | omega)) | with_reducible refine Below.drew ?_ | with_reducible refine below_drewN ?_ _ | (with_reducible refine below_nextN ?_ (by with_reducible assumption) ?_; rotate_left; focus (first | exact Nat.le_refl _ | exact Nat.le_add_right _ _ | (simp; done) | (simp; omega) | omega)))) hb1 (by first | exact Nat.le_refl _ | exact Nat.le_add_right _ _ | assumption | (simp; done) | (simp; omega) | omega)⟩
  have h3' : decide (100 < b.ns.size) = false := by simpa using h3
  by_cases h4 : 100 < b.val.text.size
  · have h4' : decide (100 < b.val.text.size) = true := by simpa using h4
    go_enter Try.func7, Try.ntmps7
    go_wp2_with fail
    refine (awake_any _).mono ?_
    rintro e w1 ⟨rfl, hb1⟩
    go_wp2_with fail
    go_ret
    exact ⟨rfl, below_nextN (by repeat (first | with_reducible exact Below.refl _ _ | with_reducible assumption | (with_reducible refine Below.setCell ?_ ?_ _; rotate_left; focus (first | exact Nat.le_refl _ | exact Nat.le_add_right _ _ | (simp; done) | (simp; omega) | omega)) | (with_reducible refine Below.alloc ?_ ?_ _; rotate_left; focus (first | exact Nat.le_refl _ | exact Nat.le_add_right _ _ | (simp; done) | (simp; omega) | omega)) | with_reducible refine Below.drew ?_ | with_reducible refine below_drewN ?_ _ | (with_reducible refine below_nextN ?_ (by with_reducible assumption) ?_; rotate_left; focus (first | exact Nat.le_refl _ | exact Nat.le_add_right _ _ | (simp; done) | (simp; omega) | omega)))) hb1 (by first | exact Nat.le_refl _ | exact Nat.le_add_right _ _ | assumption | (simp; done) | (simp; omega) | omega)⟩
  have h4' : decide (100 < b.val.text.size) = false := by simpa using h4
  obtain ⟨va, hva⟩ : ∃ r, validId a = r := ⟨_, rfl⟩
  obtain ⟨cb, hcb⟩ : ∃ r, cmpId a b = r := ⟨_, rfl⟩
  have HVA := Lib.hid hva
  have HCB := Lib.hid hcb
  have HCA := Lib.hid (cmpId_refl a)
  have HL := Lib.hid hl
  clear hva hcb hl
  go_enter Try.func7, Try.ntmps7
  go_upto_region 3 with (fail)
  refine abs_world (P := fun u => Code.wp _ _ _ _ u) (R := fun u => Blk u w.heap.size 27 a.cells.toArray ∧ Blk u (w.heap.size + 1) 27 b.cells.toArray ∧ SliceIs u u.heap.size Link.cells 10 A l ∧ Below w.heap.size w u) ⟨?_, ?_, ?_, ?_⟩ ?_
  · exact (Blk.new _ _ _).alloc _
  · exact Blk.new' (by simp)
  · exact HL.out.next (by repeat (first | with_reducible exact Below.refl _ _ | with_reducible assumption | (with_reducible refine Below.setCell ?_ ?_ _; rotate_left; focus (first | exact Nat.le_refl _ | exact Nat.le_add_right _ _ | (simp; done) | (simp; omega) | omega)) | (with_reducible refine Below.alloc ?_ ?_ _; rotate_left; focus (first | exact Nat.le_refl _ | exact Nat.le_add_right _ _ | (simp; done) | (simp; omega) | omega)) | with_reducible refine Below.drew ?_ | with_reducible refine below_drewN ?_ _ | (with_reducible refine below_nextN ?_ (by with_reducible assumption) ?_; rotate_left; focus (first | exact Nat.le_refl _ | exact Nat.le_add_right _ _ | (simp; done) | (simp; omega) | omega))))
  · repeat (first | with_reducible exact Below.refl _ _ | with_reducible assumption | (with_reducible refine Below.setCell ?_ ?_ _; rotate_left; focus (first | exact Nat.le_refl _ | exact Nat.le_add_right _ _ | (simp; done) | (simp; omega) | omega)) | (with_reducible refine Below.alloc ?_ ?_ _; rotate_left; focus (first | exact Nat.le_refl _ | exact Nat.le_add_right _ _ | (simp; done) | (simp; omega) | omega)) | with_reducible refine Below.drew ?_ | with_reducible refine below_drewN ?_ _ | (with_reducible refine below_nextN ?_ (by with_reducible assumption) ?_; rotate_left; focus (first | exact Nat.le_refl _ | exact Nat.le_add_right _ _ | (simp; done) | (simp; omega) | omega)))
  rintro W ⟨hba, hbb, hsl, hbW⟩
  obtain ⟨e0, e1, e2, e3⟩ := Ident.blk hba
  obtain ⟨e4, e5, e6, e7⟩ := Ident.blk hbb
  have mz0 := hba.lt
  have mz1 := hbb.lt
  have HSW := Lib.hid hsl
  clear hba hbb hsl HL h1' h2' h3' h4'
  go_wp2_with fail
  go_loopw [7] (fun vi wr => ∃ m : Nat, m ≤ l.length ∧ vi = .int .i64 m ∧ W = wr ∧ ∀ i (h : i < l.length), i < m → l[i].a.ns.size ≤ 100 ∧ l[i].b.ns.size ≤ 100) (fun vi _ => l.length - (intOf vi).toNat)
  case atStart => exact ⟨0, Nat.zero_le _, rfl, rfl, fun i _ h => by omega⟩
  case round =>
    obtain ⟨m, hm, rfl, rfl, hle⟩ := hrel
    have HLE := Lib.hid hle
    clear hle
    by_cases hlt : m < l.length
    · obtain ⟨b5, o5, rfl, hb5, hc5⟩ := HSW.out.get hlt
      obtain ⟨⟨a0, _, _, a3⟩, ⟨b0, _, _, b3⟩, _, _⟩ := Link.cells10 hc5
      clear hc5
      by_cases k1 : 100 < l[m].a.ns.size
      · have k1' : decide (100 < l[m].a.ns.size) = true := by simpa using k1
        go_wp2_with fail
        refine (awake_any _).mono ?_
        rintro e w1 ⟨rfl, hb1⟩
        go_wp2_with fail
        go_ret
        exact ⟨rfl, below_nextN hbW hb1 hbW.size⟩
      have k1' : decide (100 < l[m].a.ns.size) = false := by simpa using k1
      by_cases k2 : 100 < l[m].b.ns.size
      · have k2' : decide (100 < l[m].b.ns.size) = true := by simpa using k2
        go_wp2_with fail
        refine (awake_any _).mono ?_
        rintro e w1 ⟨rfl, hb1⟩
        go_wp2_with fail
        go_ret
        exact ⟨rfl, below_nextN hbW hb1 hbW.size⟩
      have k2' : decide (100 < l[m].b.ns.size) = false := by simpa using k2
      by_cases k3 : 100 < l[m].a.val.text.size
      · have k3' : decide (100 < l[m].a.val.text.size) = true := by simpa using k3
        go_wp2_with fail
        refine (awake_any _).mono ?_
        rintro e w1 ⟨rfl, hb1⟩
        go_wp2_with fail
        go_ret
        exact ⟨rfl, below_nextN hbW hb1 hbW.size⟩
      have k3' : decide (100 < l[m].a.val.text.size) = false := by simpa using k3
      by_cases k4 : 100 < l[m].b.val.text.size
      · have k4' : decide (100 < l[m].b.val.text.size) = true := by simpa using k4
        go_wp2_with fail
        refine (awake_any _).mono ?_
        rintro e w1 ⟨rfl, hb1⟩
        go_wp2_with fail
        go_ret
        exact ⟨rfl, below_nextN hbW hb1 hbW.size⟩
      have k4' : decide (100 < l[m].b.val.text.size) = false := by simpa using k4
      go_wp2_with fail
      go_roundw
      case rel => exact ⟨m + 1, by omega, by go_num, trivial, fun i h hi => by
        rcases Nat.lt_or_ge i m with h1 | h1
        · exact HLE.out i h h1
        · obtain rfl : i = m := by omega
          exact ⟨by omega, by omega⟩⟩
      case measure => simp [intOf]; omega
    · have hlt1 : decide (m < l.length) = false := by simpa using hlt
      have hsn : Sane l := fun x hx => by
        obtain ⟨i, hi, rfl⟩ := List.getElem_of_mem hx
        have := HLE.out i hi (by omega)
        omega
      have HSN := Lib.hid hsn
      clear hsn
      have hk0 := keepQ (w := W) w.heap.size mz0
      have hk1 := keepQ (w := W) (w.heap.size + 1) mz1
      go_wp2_with fail
      refine wp_region_bel (by kernel_rfl) (by kernel_rfl) ?_; (repeat (go_big_quiet_step ((first
        | (go_at_call 25; with_reducible exact bel_of_ext (identity_ValidId a _ (by omega) HVA.out))
        | (go_at_call 26; with_reducible exact bel_of_ext (ref16_ValidId a _ (by omega) HVA.out))
        | (go_at_call 27; with_reducible exact bel_of_ext (identity_CompareR a b _ HCB.out))
        | (go_at_call 27; with_reducible exact bel_of_ext (identity_CompareR a a _ HCA.out))
        | (go_at_call 28; with_reducible exact bel_of_ext (ref16_CompareR a b _ HCB.out))
        | (go_at_call 23; with_reducible exact bel_of (looks_any A c l.length l a b 1000 _ (HSW.out.next (BelOf.h _)) rfl (by omega) HSN.out (by omega) (by omega) (by omega)))
        | (go_at_call 14; exact bel_of (awake_any _)))))); refine wpQuiet_nil ?_; intro wq hq
      clear hk0 hk1 e0 e1 e2 e3 e4 e5 e6 e7
      go_wp2_with fail
      go_ret
      exact ⟨rfl, below_next hbW hq⟩
end Go.Proofs.Ytoleifehijccmaa
