/-
  Layer 16, the reference: Has, Same, direct on lists.
-/
import Derived.Test.YtoleifehijccmaaId
namespace Go.Proofs.Ytoleifehijccmaa
set_option linter.unusedVariables false
open Go.RowKit

/-- '==' of two identifiers, as the model runs it. -/
theorem eqlId (x y : Ident) (w : World) : (Op.equalIn 10000 27 (.agg #[.string x.ns, .int .i64 x.val.kind, .int .i64 x.val.num, .string x.val.text]) (.agg #[.string y.ns, .int .i64 y.val.kind, .int .i64 y.val.num, .string y.val.text])).run Try.prog w = .ok (decide (x = y)) w := by
  have hS : Try.prog.underlying 27 = some (.struct (Try.prog.fieldsOf 27)) := by kernel_rfl
  have hp : Try.prog.stoodInHeld 27 = false := by kernel_rfl
  have u2 := Try.underlying2
  have u3 := Try.underlying3
  have u9 := Try.underlying9
  rw [show (10000 : Nat) = 9999 + 1 from rfl, run_equalIn_agg w _ 27 _ _ hS hp]
  simp only [Program.fieldsOf, Try.underlying27]
  go_simp
  obtain ⟨s, a, b, c⟩ := x
  obtain ⟨s', a', b', c'⟩ := y
  simp only [Ident.mk.injEq, Val.mk.injEq]
  by_cases h0 : s = s' <;> by_cases h1 : a = a' <;> by_cases h2 : b = b' <;> by_cases h3 : c = c' <;> simp [h0, h1, h2, h3, ba_eq_iff]

theorem eqlId_of {x y : Ident} {b : Bool} (h : decide (x = y) = b) : ∀ w : World, (Op.equalIn 10000 27 (.agg #[.string x.ns, .int .i64 x.val.kind, .int .i64 x.val.num, .string x.val.text]) (.agg #[.string y.ns, .int .i64 y.val.kind, .int .i64 y.val.num, .string y.val.text])).run Try.prog w = .ok b w :=
  fun w => by rw [eqlId, h]

set_option maxRecDepth 100000 in
set_option maxHeartbeats 400000 in
theorem ref16_Has (A : Option Addr) (c : Nat) (l : List Ident) (s : ByteArray) (k n : Int) (t : ByteArray) (w : World) (hl : SliceIs w w.heap.size Ident.cells 4 A l) (hn : l.length ≤ 1000000) :
    Calls Try.prog 21 #[.slice A l.length c, .agg #[.string s, .int .i64 k, .int .i64 n, .string t]] w fun e w' => e = .returned (.bool (decide (⟨s, k, n, t⟩ ∈ l))) ∧ Below w.heap.size w w' := by
  have hg : Try.prog.eqGuardType Try.prog.depth 27 = false := by kernel_rfl
  go_enter Try.func21, Try.ntmps21
  go_wp2
  go_loopw [5] (fun i wr => ∃ m : Nat, m ≤ l.length ∧ i = .int .i64 m ∧ Below w.heap.size w wr ∧ (∀ j u, (Ident.cells ⟨s, k, n, t⟩)[j]? = some u → wr.cell? ⟨w.heap.size, 0 + j, none⟩ = some u) ∧ w.heap.size < wr.heap.size ∧ (⟨s, k, n, t⟩ ∉ l.take m)) (fun i _ => l.length - (intOf i).toNat)
  case atStart => exact ⟨0, Nat.zero_le _, rfl, by repeat (first | with_reducible exact Below.refl _ _ | with_reducible assumption | (with_reducible refine Below.setCell ?_ ?_ _; rotate_left; focus (first | exact Nat.le_refl _ | exact Nat.le_add_right _ _ | (simp; done) | (simp; omega) | omega)) | (with_reducible refine Below.alloc ?_ ?_ _; rotate_left; focus (first | exact Nat.le_refl _ | exact Nat.le_add_right _ _ | (simp; done) | (simp; omega) | omega)) | with_reducible refine Below.drew ?_ | with_reducible refine below_drewN ?_ _ | (with_reducible refine below_nextN ?_ (by with_reducible assumption) ?_; rotate_left; focus (first | exact Nat.le_refl _ | exact Nat.le_add_right _ _ | (simp; done) | (simp; omega) | omega))), fun j u hu => by simpa [Ident.cells] using hu, by simp, by simp⟩
  case round =>
    obtain ⟨m, hm, rfl, hbw, hx, hz, hmem⟩ := hrel
    obtain ⟨x0, x1, x2, x3⟩ := Ident.cells4 hx
    simp only [Nat.zero_add] at x1 x2 x3
    have HX := Lib.hid hx
    have HM := Lib.hid hmem
    clear hx hmem
    by_cases hlt : m < l.length
    · obtain ⟨b, o, rfl, hb, hc⟩ := (hl.below hbw).get hlt
      obtain ⟨h0, h1, h2, h3⟩ := Ident.cells4 hc
      have hk0 := keepQ (w := wr) b (by have := hbw.size; omega)
      have hk1 := keepQ (w := wr) w.heap.size hz
      have heq := eqlId l[m] ⟨s, k, n, t⟩
      clear hc
      go_wp2
      refine wp_region_bel (by kernel_rfl) (by kernel_rfl) ?_; (repeat (go_big_quiet_step (fail))); refine wpQuiet_nil ?_; intro wq hq
      clear hk0 hk1 h0 h1 h2 h3 x0 x1 x2 x3 heq
      have hq' := below_nextN hbw hq hbw.size
      have hz' : w.heap.size < wq.heap.size := by have := hq.size; omega
      go_wp2
      · have e : l[m] = ⟨s, k, n, t⟩ := by assumption
        go_ret
        exact ⟨ret_bool (by simp [← e]), hq'⟩
      · have e : ¬ l[m] = ⟨s, k, n, t⟩ := by assumption
        go_roundw
        case rel => exact ⟨m + 1, by omega, by go_num, hq', fun j u hu => (hq.cell (by exact hz)).trans (HX.out j u hu), hz', by rw [List.take_succ_eq_append_getElem hlt]; simp only [List.mem_append, List.mem_singleton, not_or]; exact ⟨HM.out, fun e' => e e'.symm⟩⟩
        case measure => simp [intOf]; omega
    · go_wp2
      go_ret
      have e : l.take m = l := List.take_of_length_le (by omega)
      have h := HM.out
      rw [e] at h
      exact ⟨ret_bool (by simp [h]), hbw⟩

set_option maxRecDepth 100000 in
set_option maxHeartbeats 400000 in
theorem ref16_Same (A A' : Option Addr) (c c' : Nat) (l l' : List Ident) (w : World) (hl : SliceIs w w.heap.size Ident.cells 4 A l) (hl' : SliceIs w w.heap.size Ident.cells 4 A' l') (hn : l.length ≤ 1000000) (hn' : l'.length ≤ 1000000) :
    Calls Try.prog 22 #[.slice A l.length c, .slice A' l'.length c'] w fun e w' => e = .returned (.bool (decide (l = l'))) ∧ Below w.heap.size w w' := by
  have hg : Try.prog.eqGuardType Try.prog.depth 27 = false := by kernel_rfl
  by_cases hlen : l.length = l'.length
  · have hne : ((l.length : Int) != (l'.length : Int)) = false := by simp [hlen]
    have HL := Lib.hid hlen
    clear hlen
    go_enter Try.func22, Try.ntmps22
    go_wp2
    go_loopw [5] (fun i wr => ∃ m : Nat, m ≤ l.length ∧ i = .int .i64 m ∧ Below w.heap.size w wr ∧ l.take m = l'.take m) (fun i _ => l.length - (intOf i).toNat)
    case atStart => exact ⟨0, Nat.zero_le _, rfl, by repeat (first | with_reducible exact Below.refl _ _ | with_reducible assumption | (with_reducible refine Below.setCell ?_ ?_ _; rotate_left; focus (first | exact Nat.le_refl _ | exact Nat.le_add_right _ _ | (simp; done) | (simp; omega) | omega)) | (with_reducible refine Below.alloc ?_ ?_ _; rotate_left; focus (first | exact Nat.le_refl _ | exact Nat.le_add_right _ _ | (simp; done) | (simp; omega) | omega)) | with_reducible refine Below.drew ?_ | with_reducible refine below_drewN ?_ _ | (with_reducible refine below_nextN ?_ (by with_reducible assumption) ?_; rotate_left; focus (first | exact Nat.le_refl _ | exact Nat.le_add_right _ _ | (simp; done) | (simp; omega) | omega))), by simp⟩
    case round =>
      obtain ⟨m, hm, rfl, hbw, hmem⟩ := hrel
      have HM := Lib.hid hmem
      clear hmem
      by_cases hlt : m < l.length
      · have hlt' : m < l'.length := by have := HL.out; omega
        obtain ⟨b, o, rfl, hb, hc⟩ := (hl.below hbw).get hlt
        obtain ⟨h0, h1, h2, h3⟩ := Ident.cells4 hc
        obtain ⟨b', o', rfl, hb', hc'⟩ := (hl'.below hbw).get hlt'
        obtain ⟨g0, g1, g2, g3⟩ := Ident.cells4 hc'
        have hk0 := keepQ (w := wr) b (by have := hbw.size; omega)
        have hk1 := keepQ (w := wr) b' (by have := hbw.size; omega)
        have heq := eqlId l[m] l'[m]
        clear hc hc'
        go_wp2
        refine wp_region_bel (by kernel_rfl) (by kernel_rfl) ?_; (repeat (go_big_quiet_step (fail))); refine wpQuiet_nil ?_; intro wq hq
        clear hk0 hk1 h0 h1 h2 h3 g0 g1 g2 g3 heq
        have hq' := below_nextN hbw hq hbw.size
        go_wp2
        · have e0 : (!decide (l[m] = l'[m])) = true := by assumption
          have e : ¬ l[m] = l'[m] := by simpa using e0
          go_ret
          exact ⟨ret_bool (by symm; rw [decide_eq_false_iff_not]; intro h; subst h; exact e rfl), hq'⟩
        · have e0 : (!decide (l[m] = l'[m])) = false := by assumption
          have e : l[m] = l'[m] := by simpa using e0
          go_roundw
          case rel => exact ⟨m + 1, by omega, by go_num, hq', by rw [List.take_succ_eq_append_getElem hlt, List.take_succ_eq_append_getElem hlt', HM.out, e]⟩
          case measure => simp [intOf]; omega
      · go_wp2
        go_ret
        have e1 : l.take m = l := List.take_of_length_le (by omega)
        have e2 : l'.take m = l' := List.take_of_length_le (by have := HL.out; omega)
        have h := HM.out
        rw [e1, e2] at h
        exact ⟨ret_bool (by simp [h]), hbw⟩
  · have hne : ((l.length : Int) != (l'.length : Int)) = true := by simp; omega
    have HL := Lib.hid hlen
    clear hlen
    go_enter Try.func22, Try.ntmps22
    go_wp2
    go_ret
    exact ⟨ret_bool (by symm; rw [decide_eq_false_iff_not]; intro h; exact HL.out (by rw [h])), by repeat (first | with_reducible exact Below.refl _ _ | with_reducible assumption | (with_reducible refine Below.setCell ?_ ?_ _; rotate_left; focus (first | exact Nat.le_refl _ | exact Nat.le_add_right _ _ | (simp; done) | (simp; omega) | omega)) | (with_reducible refine Below.alloc ?_ ?_ _; rotate_left; focus (first | exact Nat.le_refl _ | exact Nat.le_add_right _ _ | (simp; done) | (simp; omega) | omega)) | with_reducible refine Below.drew ?_ | with_reducible refine below_drewN ?_ _ | (with_reducible refine below_nextN ?_ (by with_reducible assumption) ?_; rotate_left; focus (first | exact Nat.le_refl _ | exact Nat.le_add_right _ _ | (simp; done) | (simp; omega) | omega)))⟩
end Go.Proofs.Ytoleifehijccmaa
