/-
  Layer 16: identity.Valid is validLinks, for every list of links.
-/
import Derived.Test.YtoleifehijccmaaValid
namespace Go.Proofs.Ytoleifehijccmaa
set_option linter.unusedVariables false
open Go.RowKit
theorem idle_Valid (w : World) : CallsD Try.prog 34 #[] .returning w fun e u' w' => e = .returned (.tuple #[]) ∧ u' = .returning ∧ w' = w := by
  refine callsD_of_wpS Try.func34 rfl fun c₀ cs hu => ?_
  apply wpS_region
  cases c₀
  simp_all [wpOpsS, go_sem, recoverD, Try.ntmps34, bodyPostS, results, Try.results34]
theorem identity_ValidId (x : Ident) (w : World) (hs : x.ns.size ≤ 1000000) {r : Bool} (hr : validId x = r) :
    Calls Try.prog 25 #[.agg #[.string x.ns, .int .i64 x.val.kind, .int .i64 x.val.num, .string x.val.text]] w fun e w' => e = .returned (.bool r) ∧ Ext w w' := by
  rw [← hr]
  exact identity_ValidIdentifier x.ns x.val.kind x.val.num x.val.text w hs
theorem identity_CompareId (x y : Ident) (w : World) :
    Calls Try.prog 27 #[.agg #[.string x.ns, .int .i64 x.val.kind, .int .i64 x.val.num, .string x.val.text], .agg #[.string y.ns, .int .i64 y.val.kind, .int .i64 y.val.num, .string y.val.text]] w fun e w' => e = .returned (.int .i64 (cmpId x y)) ∧ Ext w w' :=
  identity_Compare x.ns y.ns x.val.kind x.val.num y.val.kind y.val.num x.val.text y.val.text w

set_option maxRecDepth 100000 in
set_option maxHeartbeats 2000000 in
theorem identity_Valid (A : Option Addr) (c : Nat) (l : List Link) (w : World) (hl : SliceIs w w.heap.size Link.cells 10 A l) (hn : l.length ≤ 1000000) (hs : Sane l) :
    Calls Try.prog 12 #[.slice A l.length c] w fun e w' => e = .returned (.bool (validLinks l)) ∧ Below w.heap.size w w' := by
  have HS := Lib.hid hs
  clear hs
  by_cases h64 : (64 : Int) < (l.length : Int)
  · go_enter_defers Try.func12, Try.ntmps12
    go_wp2
    refine leaves_cons (f := 34) (args := #[]) (by simp) (by simp [go_sem]) ?_; refine (idle_Valid _).mono ?_; rintro e u' w'' ⟨rfl, rfl, rfl⟩; refine ⟨_, results_tmp rfl _ _ _, ?_⟩
    have e3 : decide (l.length ≤ 64) = false := by simp; omega
    exact ⟨ret_bool (by rw [validLinks, e3]; simp), by repeat (first | with_reducible exact Below.refl _ _ | with_reducible assumption | (with_reducible refine Below.setCell ?_ ?_ _; rotate_left; focus (first | exact Nat.le_refl _ | exact Nat.le_add_right _ _ | (simp; done) | (simp; omega) | omega)) | (with_reducible refine Below.alloc ?_ ?_ _; rotate_left; focus (first | exact Nat.le_refl _ | exact Nat.le_add_right _ _ | (simp; done) | (simp; omega) | omega)) | with_reducible refine Below.drew ?_ | with_reducible refine below_drewN ?_ _ | (with_reducible refine below_nextN ?_ (by with_reducible assumption) ?_; rotate_left; focus (first | exact Nat.le_refl _ | exact Nat.le_add_right _ _ | (simp; done) | (simp; omega) | omega)))⟩
  · have h64' : (l.length : Int) ≤ 64 := by omega
    go_enter_defers Try.func12, Try.ntmps12
    go_wp2
    go_loopw [3, 11] (fun vl vi wr => ∃ m : Nat, m ≤ l.length ∧ vl = .int .i64 (lastOf 0 (l.take m)) ∧ vi = .int .i64 m ∧ Below w.heap.size w wr ∧ validFrom 0 (l.take m) = true) (fun _ i _ => l.length - (intOf i).toNat)
    case atStart => exact ⟨0, Nat.zero_le _, by simp [lastOf], rfl, by repeat (first | with_reducible exact Below.refl _ _ | with_reducible assumption | (with_reducible refine Below.setCell ?_ ?_ _; rotate_left; focus (first | exact Nat.le_refl _ | exact Nat.le_add_right _ _ | (simp; done) | (simp; omega) | omega)) | (with_reducible refine Below.alloc ?_ ?_ _; rotate_left; focus (first | exact Nat.le_refl _ | exact Nat.le_add_right _ _ | (simp; done) | (simp; omega) | omega)) | with_reducible refine Below.drew ?_ | with_reducible refine below_drewN ?_ _ | (with_reducible refine below_nextN ?_ (by with_reducible assumption) ?_; rotate_left; focus (first | exact Nat.le_refl _ | exact Nat.le_add_right _ _ | (simp; done) | (simp; omega) | omega))), by simp [validFrom]⟩
    case round =>
      obtain ⟨m, hm, rfl, rfl, hbw, hvf⟩ := hrel
      have HVF := Lib.hid hvf
      clear hvf
      by_cases hlt : m < l.length
      · obtain ⟨b, o, rfl, hb, hc⟩ := (hl.below hbw).get hlt
        obtain ⟨⟨a0, a1, a2, a3⟩, ⟨b0, b1, b2, b3⟩, s8, r9⟩ := Link.cells10 hc
        clear hc
        have hsane := HS.out l[m] (List.getElem_mem hlt)
        obtain ⟨hsa, hsb⟩ := hsane
        have fails : linkOk (lastOf 0 (l.take m)) l[m] = false → validLinks l = false := fun h => validFrom_fail hlt h
        have HF := Lib.hid fails
        clear fails
        have hwz := hbw.size
        by_cases c1 : l[m].seq ≤ lastOf 0 (l.take m)
        · have HC := Lib.hid c1
          go_wp2_with fail
          refine leaves_cons (f := 34) (args := #[]) (by simp) (by simp [go_sem]) ?_; refine (idle_Valid _).mono ?_; rintro e u' w'' ⟨rfl, rfl, rfl⟩; refine ⟨_, results_tmp rfl _ _ _, ?_⟩
          exact ⟨ret_bool (HF.out (by rw [linkOk, decide_eq_false (by have h := HC.out; omega)]; rfl)).symm, by repeat (first | with_reducible exact Below.refl _ _ | with_reducible assumption | (with_reducible refine Below.setCell ?_ ?_ _; rotate_left; focus (first | exact Nat.le_refl _ | exact Nat.le_add_right _ _ | (simp; done) | (simp; omega) | omega)) | (with_reducible refine Below.alloc ?_ ?_ _; rotate_left; focus (first | exact Nat.le_refl _ | exact Nat.le_add_right _ _ | (simp; done) | (simp; omega) | omega)) | with_reducible refine Below.drew ?_ | with_reducible refine below_drewN ?_ _ | (with_reducible refine below_nextN ?_ (by with_reducible assumption) ?_; rotate_left; focus (first | exact Nat.le_refl _ | exact Nat.le_add_right _ _ | (simp; done) | (simp; omega) | omega)))⟩
        have d1 : lastOf 0 (l.take m) < l[m].seq := by omega
        by_cases c2 : 1073741824 < l[m].seq
        · have HC := Lib.hid c2
          go_wp2_with fail
          refine leaves_cons (f := 34) (args := #[]) (by simp) (by simp [go_sem]) ?_; refine (idle_Valid _).mono ?_; rintro e u' w'' ⟨rfl, rfl, rfl⟩; refine ⟨_, results_tmp rfl _ _ _, ?_⟩
          exact ⟨ret_bool (HF.out (by have h : ¬ l[m].seq ≤ 1073741824 := (by have h := HC.out; omega); rw [linkOk, decide_eq_false h]; simp)).symm, by repeat (first | with_reducible exact Below.refl _ _ | with_reducible assumption | (with_reducible refine Below.setCell ?_ ?_ _; rotate_left; focus (first | exact Nat.le_refl _ | exact Nat.le_add_right _ _ | (simp; done) | (simp; omega) | omega)) | (with_reducible refine Below.alloc ?_ ?_ _; rotate_left; focus (first | exact Nat.le_refl _ | exact Nat.le_add_right _ _ | (simp; done) | (simp; omega) | omega)) | with_reducible refine Below.drew ?_ | with_reducible refine below_drewN ?_ _ | (with_reducible refine below_nextN ?_ (by with_reducible assumption) ?_; rotate_left; focus (first | exact Nat.le_refl _ | exact Nat.le_add_right _ _ | (simp; done) | (simp; omega) | omega)))⟩
        have d2 : l[m].seq ≤ 1073741824 := by omega
        cases c4 : validId l[m].a
        · have HC4 := Lib.hid c4
          clear c4
          go_wp2_with (first
          | (go_at_call 25; (with_reducible refine (identity_ValidId l[m].a _ hsa HC4.out).mono ?_); rintro e w1 ⟨rfl, hb1⟩; obtain ⟨c0, f0, z0⟩ := keepE hb1 wr.heap.size (by first | assumption | (simp; done) | (simp; omega) | omega); have hx1 : Below w.heap.size w w1 := (by first | exact below_nextN (by repeat (first | with_reducible exact Below.refl _ _ | with_reducible assumption | (with_reducible refine Below.setCell ?_ ?_ _; rotate_left; focus (first | exact Nat.le_refl _ | exact Nat.le_add_right _ _ | (simp; done) | (simp; omega) | omega)) | (with_reducible refine Below.alloc ?_ ?_ _; rotate_left; focus (first | exact Nat.le_refl _ | exact Nat.le_add_right _ _ | (simp; done) | (simp; omega) | omega)) | with_reducible refine Below.drew ?_ | with_reducible refine below_drewN ?_ _ | (with_reducible refine below_nextN ?_ (by with_reducible assumption) ?_; rotate_left; focus (first | exact Nat.le_refl _ | exact Nat.le_add_right _ _ | (simp; done) | (simp; omega) | omega)))) hb1.1 (by first | exact Nat.le_refl _ | exact Nat.le_add_right _ _ | assumption | (simp; done) | (simp; omega) | omega)))
          | (go_at_call 25; (with_reducible refine (identity_ValidId l[m].b _ hsb HC4.out).mono ?_); rintro e w2 ⟨rfl, hb2⟩; obtain ⟨c1, f1, z1⟩ := keepE hb2 wr.heap.size (by first | assumption | (simp; done) | (simp; omega) | omega); have hx2 : Below w.heap.size w w2 := below_nextN hx1 hb2.1 hx1.size)
          | (go_at_call 27; (with_reducible refine (identity_CompareId l[m].a l[m].b _).mono ?_); rintro e w3 ⟨rfl, hb3⟩; obtain ⟨c2, f2, z2⟩ := keepE hb3 wr.heap.size (by first | assumption | (simp; done) | (simp; omega) | omega); have hx3 : Below w.heap.size w w3 := below_nextN hx2 hb3.1 hx2.size))
          refine leaves_cons (f := 34) (args := #[]) (by simp) (by simp [go_sem]) ?_; refine (idle_Valid _).mono ?_; rintro e u' w'' ⟨rfl, rfl, rfl⟩; refine ⟨_, results_tmp rfl _ _ _, ?_⟩
          exact ⟨ret_bool (HF.out (by simp [linkOk, HC4.out])).symm, hx1⟩
        cases c5 : validId l[m].b
        · have HC4 := Lib.hid c4
          have HC5 := Lib.hid c5
          clear c4 c5
          go_wp2_with (first
          | (go_at_call 25; (with_reducible refine (identity_ValidId l[m].a _ hsa HC4.out).mono ?_); rintro e w1 ⟨rfl, hb1⟩; obtain ⟨c0, f0, z0⟩ := keepE hb1 wr.heap.size (by first | assumption | (simp; done) | (simp; omega) | omega); have hx1 : Below w.heap.size w w1 := (by first | exact below_nextN (by repeat (first | with_reducible exact Below.refl _ _ | with_reducible assumption | (with_reducible refine Below.setCell ?_ ?_ _; rotate_left; focus (first | exact Nat.le_refl _ | exact Nat.le_add_right _ _ | (simp; done) | (simp; omega) | omega)) | (with_reducible refine Below.alloc ?_ ?_ _; rotate_left; focus (first | exact Nat.le_refl _ | exact Nat.le_add_right _ _ | (simp; done) | (simp; omega) | omega)) | with_reducible refine Below.drew ?_ | with_reducible refine below_drewN ?_ _ | (with_reducible refine below_nextN ?_ (by with_reducible assumption) ?_; rotate_left; focus (first | exact Nat.le_refl _ | exact Nat.le_add_right _ _ | (simp; done) | (simp; omega) | omega)))) hb1.1 (by first | exact Nat.le_refl _ | exact Nat.le_add_right _ _ | assumption | (simp; done) | (simp; omega) | omega)))
          | (go_at_call 25; (with_reducible refine (identity_ValidId l[m].b _ hsb HC5.out).mono ?_); rintro e w2 ⟨rfl, hb2⟩; obtain ⟨c1, f1, z1⟩ := keepE hb2 wr.heap.size (by first | assumption | (simp; done) | (simp; omega) | omega); have hx2 : Below w.heap.size w w2 := below_nextN hx1 hb2.1 hx1.size)
          | (go_at_call 27; (with_reducible refine (identity_CompareId l[m].a l[m].b _).mono ?_); rintro e w3 ⟨rfl, hb3⟩; obtain ⟨c2, f2, z2⟩ := keepE hb3 wr.heap.size (by first | assumption | (simp; done) | (simp; omega) | omega); have hx3 : Below w.heap.size w w3 := below_nextN hx2 hb3.1 hx2.size))
          refine leaves_cons (f := 34) (args := #[]) (by simp) (by simp [go_sem]) ?_; refine (idle_Valid _).mono ?_; rintro e u' w'' ⟨rfl, rfl, rfl⟩; refine ⟨_, results_tmp rfl _ _ _, ?_⟩
          exact ⟨ret_bool (HF.out (by simp [linkOk, HC5.out])).symm, hx2⟩
        have HC4 := Lib.hid c4
        have HC5 := Lib.hid c5
        clear c4 c5
        by_cases c6 : l[m].a = l[m].b
        · have hz : (cmpId l[m].a l[m].b == 0) = true := by rw [c6, cmpId_refl]; rfl
          have HC6 := Lib.hid c6
          clear c6
          go_wp2_with (first
          | (go_at_call 25; (with_reducible refine (identity_ValidId l[m].a _ hsa HC4.out).mono ?_); rintro e w1 ⟨rfl, hb1⟩; obtain ⟨c0, f0, z0⟩ := keepE hb1 wr.heap.size (by first | assumption | (simp; done) | (simp; omega) | omega); have hx1 : Below w.heap.size w w1 := (by first | exact below_nextN (by repeat (first | with_reducible exact Below.refl _ _ | with_reducible assumption | (with_reducible refine Below.setCell ?_ ?_ _; rotate_left; focus (first | exact Nat.le_refl _ | exact Nat.le_add_right _ _ | (simp; done) | (simp; omega) | omega)) | (with_reducible refine Below.alloc ?_ ?_ _; rotate_left; focus (first | exact Nat.le_refl _ | exact Nat.le_add_right _ _ | (simp; done) | (simp; omega) | omega)) | with_reducible refine Below.drew ?_ | with_reducible refine below_drewN ?_ _ | (with_reducible refine below_nextN ?_ (by with_reducible assumption) ?_; rotate_left; focus (first | exact Nat.le_refl _ | exact Nat.le_add_right _ _ | (simp; done) | (simp; omega) | omega)))) hb1.1 (by first | exact Nat.le_refl _ | exact Nat.le_add_right _ _ | assumption | (simp; done) | (simp; omega) | omega)))
          | (go_at_call 25; (with_reducible refine (identity_ValidId l[m].b _ hsb HC5.out).mono ?_); rintro e w2 ⟨rfl, hb2⟩; obtain ⟨c1, f1, z1⟩ := keepE hb2 wr.heap.size (by first | assumption | (simp; done) | (simp; omega) | omega); have hx2 : Below w.heap.size w w2 := below_nextN hx1 hb2.1 hx1.size)
          | (go_at_call 27; (with_reducible refine (identity_CompareId l[m].a l[m].b _).mono ?_); rintro e w3 ⟨rfl, hb3⟩; obtain ⟨c2, f2, z2⟩ := keepE hb3 wr.heap.size (by first | assumption | (simp; done) | (simp; omega) | omega); have hx3 : Below w.heap.size w w3 := below_nextN hx2 hb3.1 hx2.size))
          refine leaves_cons (f := 34) (args := #[]) (by simp) (by simp [go_sem]) ?_; refine (idle_Valid _).mono ?_; rintro e u' w'' ⟨rfl, rfl, rfl⟩; refine ⟨_, results_tmp rfl _ _ _, ?_⟩
          exact ⟨ret_bool (HF.out (by simp [linkOk, HC6.out])).symm, hx3⟩
        · have hz : (cmpId l[m].a l[m].b == 0) = false := by
            rw [beq_eq_false_iff_ne]
            exact fun e => c6 (cmpId_eq HC4.out HC5.out e)
          have HC6 := Lib.hid c6
          clear c6
          have hgood : validFrom 0 (l.take (m + 1)) = true := by
            rw [validFrom_take l m hlt, HVF.out]
            simp [linkOk, HC4.out, HC5.out, HC6.out, d1, d2]
          have HGD := Lib.hid hgood
          clear hgood
          go_wp2_with (first
          | (go_at_call 25; (with_reducible refine (identity_ValidId l[m].a _ hsa HC4.out).mono ?_); rintro e w1 ⟨rfl, hb1⟩; obtain ⟨c0, f0, z0⟩ := keepE hb1 wr.heap.size (by first | assumption | (simp; done) | (simp; omega) | omega); have hx1 : Below w.heap.size w w1 := (by first | exact below_nextN (by repeat (first | with_reducible exact Below.refl _ _ | with_reducible assumption | (with_reducible refine Below.setCell ?_ ?_ _; rotate_left; focus (first | exact Nat.le_refl _ | exact Nat.le_add_right _ _ | (simp; done) | (simp; omega) | omega)) | (with_reducible refine Below.alloc ?_ ?_ _; rotate_left; focus (first | exact Nat.le_refl _ | exact Nat.le_add_right _ _ | (simp; done) | (simp; omega) | omega)) | with_reducible refine Below.drew ?_ | with_reducible refine below_drewN ?_ _ | (with_reducible refine below_nextN ?_ (by with_reducible assumption) ?_; rotate_left; focus (first | exact Nat.le_refl _ | exact Nat.le_add_right _ _ | (simp; done) | (simp; omega) | omega)))) hb1.1 (by first | exact Nat.le_refl _ | exact Nat.le_add_right _ _ | assumption | (simp; done) | (simp; omega) | omega)))
          | (go_at_call 25; (with_reducible refine (identity_ValidId l[m].b _ hsb HC5.out).mono ?_); rintro e w2 ⟨rfl, hb2⟩; obtain ⟨c1, f1, z1⟩ := keepE hb2 wr.heap.size (by first | assumption | (simp; done) | (simp; omega) | omega); have hx2 : Below w.heap.size w w2 := below_nextN hx1 hb2.1 hx1.size)
          | (go_at_call 27; (with_reducible refine (identity_CompareId l[m].a l[m].b _).mono ?_); rintro e w3 ⟨rfl, hb3⟩; obtain ⟨c2, f2, z2⟩ := keepE hb3 wr.heap.size (by first | assumption | (simp; done) | (simp; omega) | omega); have hx3 : Below w.heap.size w w3 := below_nextN hx2 hb3.1 hx2.size))
          go_roundw
          case rel => exact ⟨m + 1, by omega, by rw [lastOf_take l m hlt], by go_num, hx3, HGD.out⟩
          case measure => simp [intOf]; omega
      · go_wp2_with fail
        refine leaves_cons (f := 34) (args := #[]) (by simp) (by simp [go_sem]) ?_; refine (idle_Valid _).mono ?_; rintro e u' w'' ⟨rfl, rfl, rfl⟩; refine ⟨_, results_tmp rfl _ _ _, ?_⟩
        have e : l.take m = l := List.take_of_length_le (by omega)
        have h := HVF.out
        rw [e] at h
        exact ⟨ret_bool (by rw [validLinks, h, Bool.and_true]; symm; simp; omega), hbw⟩
end Go.Proofs.Ytoleifehijccmaa
