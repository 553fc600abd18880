/-
  slices.BinarySearchFunc over ascending identifiers, and (graph).index.
-/
import Derived.Test.YtoleifehijccmaaValid2
namespace Go.Proofs.Ytoleifehijccmaa
set_option linter.unusedVariables false
open Go.RowKit

theorem asc_get {l : List Ident} (h : Asc l) {i j : Nat} (hi : i < l.length) (hj : j < l.length) (hij : i < j) : cmpId l[i] l[j] < 0 :=
  List.pairwise_iff_getElem.1 h i j hi hj hij
theorem insK_bound {l : List Ident} (x : Ident) (m : Nat) (hm : m ≤ l.length) (h1 : ∀ k (h : k < l.length), k < m → cmpId l[k] x < 0) (h2 : ∀ h : m < l.length, 0 ≤ cmpId l[m] x) : insK l x = m :=
  takeWhile_len _ l m hm (fun j h hj => by simpa using h1 j h hj) (fun h => by simpa using h2 h)

set_option maxRecDepth 100000 in
set_option maxHeartbeats 1000000 in
theorem search_any (A : Option Addr) (c : Nat) (l : List Ident) (x : Ident) (w : World) (hl : SliceIs w w.heap.size Ident.cells 4 A l) (hn : l.length ≤ 1000000) (ha : Asc l) :
    Calls Try.prog 82 #[.slice A l.length c, .agg #[.string x.ns, .int .i64 x.val.kind, .int .i64 x.val.num, .string x.val.text], .func (.func 27) #[] #[]] w fun e w' =>
      (∃ b, e = .returned (.tuple #[.int .i64 (insK l x), .bool b])) ∧ Below w.heap.size w w' := by
  have HA := Lib.hid ha
  clear ha
  go_enter Try.func82, Try.ntmps82
  go_wp2
  go_loopw [9, 10] (fun vi vj wr => ∃ i j : Nat, i ≤ j ∧ j ≤ l.length ∧ vi = .int .i64 i ∧ vj = .int .i64 j ∧ Below w.heap.size w wr ∧ (∀ y u, (Ident.cells x)[y]? = some u → wr.cell? ⟨w.heap.size, 0 + y, none⟩ = some u) ∧ w.heap.size < wr.heap.size ∧ (∀ k (h : k < l.length), k < i → cmpId l[k] x < 0) ∧ (∀ k (h : k < l.length), j ≤ k → 0 ≤ cmpId l[k] x)) (fun vi vj _ => (intOf vj).toNat - (intOf vi).toNat)
  case atStart => exact ⟨0, l.length, Nat.zero_le _, Nat.le_refl _, rfl, rfl, by repeat (first | with_reducible exact Below.refl _ _ | with_reducible assumption | (with_reducible refine Below.setCell ?_ ?_ _; rotate_left; focus (first | exact Nat.le_refl _ | exact Nat.le_add_right _ _ | (simp; done) | (simp; omega) | omega)) | (with_reducible refine Below.alloc ?_ ?_ _; rotate_left; focus (first | exact Nat.le_refl _ | exact Nat.le_add_right _ _ | (simp; done) | (simp; omega) | omega)) | with_reducible refine Below.drew ?_ | with_reducible refine below_drewN ?_ _ | (with_reducible refine below_nextN ?_ (by with_reducible assumption) ?_; rotate_left; focus (first | exact Nat.le_refl _ | exact Nat.le_add_right _ _ | (simp; done) | (simp; omega) | omega))), fun j u hu => by simpa [Ident.cells] using hu, by simp, fun k h hk => by omega, fun k h hk => by omega⟩
  case round =>
    obtain ⟨i, j, hij, hj, rfl, rfl, hbw, hx, hz, hlo, hhi⟩ := hrel
    obtain ⟨x0, x1, x2, x3⟩ := Ident.cells4 hx
    simp only [Nat.zero_add] at x1 x2 x3
    have HX := Lib.hid hx
    have HLO := Lib.hid hlo
    have HHI := Lib.hid hhi
    clear hx hlo hhi
    have hk1 := keepQ (w := wr) w.heap.size hz
    by_cases hlt : i < j
    · obtain ⟨m, hme⟩ : ∃ m : Nat, m = (i + j) / 2 := ⟨_, rfl⟩
      have hcast : ((i : Int) + (j : Int)) / 2 = (m : Int) := by omega
      have hm1 : i ≤ m := by omega
      have hm2 : m < j := by omega
      have hm : m < l.length := by omega
      have HC := Lib.hid hcast
      clear hcast hme
      obtain ⟨b, o, rfl, hb, hc⟩ := (hl.below hbw).get hm
      obtain ⟨h0, h1, h2, h3⟩ := Ident.cells4 hc
      have hk0 := keepQ (w := wr) b (by have := hbw.size; omega)
      clear hc
      go_wp2
      rw [HC.out]
      refine wp_region_bel (by kernel_rfl) (by kernel_rfl) ?_; (repeat (go_big_quiet_step ((go_at_call 27; with_reducible exact bel_of_ext (identity_CompareId l[m] x _))))); refine wpQuiet_nil ?_; intro wq hq
      have hq' := below_nextN hbw hq hbw.size
      have hz' : w.heap.size < wq.heap.size := by have := hq.size; omega
      by_cases hcmp : cmpId l[m] x < 0
      · go_wp2
        go_roundw
        case rel => exact ⟨m + 1, j, by omega, hj, by go_num, rfl, hq', fun y u hu => (hq.cell (by exact hz)).trans (HX.out y u hu), hz', fun k h hk => by
          rcases Nat.lt_or_ge k m with hkm | hkm
          · exact cmpId_ok.lt_le (asc_get HA.out h hm hkm) (by omega)
          · obtain rfl : k = m := by omega
            exact hcmp, HHI.out⟩
        case measure => simp [intOf]; omega
      · have hge : decide (cmpId l[m] x < 0) = false := by simpa using hcmp
        go_wp2
        go_roundw
        case rel => exact ⟨i, m, by omega, by omega, rfl, rfl, hq', fun y u hu => (hq.cell (by exact hz)).trans (HX.out y u hu), hz', HLO.out, fun k h hk => by
          rcases Nat.lt_or_ge m k with hkm | hkm
          · have h1 := asc_get HA.out hm h hkm
            rcases Int.lt_or_le (cmpId l[k] x) 0 with h2 | h2
            · have := cmpId_ok.lt_le h1 (Int.le_of_lt h2)
              omega
            · exact h2
          · obtain rfl : k = m := by omega
            omega⟩
        case measure => simp [intOf]; omega
    · obtain rfl : i = j := by omega
      have hK : insK l x = i := insK_bound x i hj HLO.out (fun h => HHI.out i h (Nat.le_refl _))
      have HK := Lib.hid hK
      clear hK
      by_cases hil : i < l.length
      · obtain ⟨b, o, rfl, hb, hc⟩ := (hl.below hbw).get hil
        obtain ⟨h0, h1, h2, h3⟩ := Ident.cells4 hc
        have hk0 := keepQ (w := wr) b (by have := hbw.size; omega)
        clear hc
        go_wp2
        refine wp_region_bel (by kernel_rfl) (by kernel_rfl) ?_; (repeat (go_big_quiet_step ((go_at_call 27; with_reducible exact bel_of_ext (identity_CompareId l[i] x _))))); refine wpQuiet_nil ?_; intro wq hq
        go_wp2
        go_ret2
        rw [HK.out]
        exact ⟨⟨_, rfl⟩, below_nextN hbw hq hbw.size⟩
      · go_wp2
        refine wp_region_bel (by kernel_rfl) (by kernel_rfl) ?_; (repeat (go_big_quiet_step (fail))); refine wpQuiet_nil ?_; intro wq hq
        go_wp2
        go_ret2
        rw [HK.out]
        exact ⟨⟨_, rfl⟩, below_nextN hbw hq hbw.size⟩

theorem insK_mem {l : List Ident} (ha : Asc l) (hv : AllValid l) {x : Ident} (hx : x ∈ l) : insK l x < l.length ∧ l[insK l x]? = some x := by
  obtain ⟨i, hi, rfl⟩ := List.getElem_of_mem hx
  have e : insK l l[i] = i := insK_bound _ i (by omega) (fun k h hk => asc_get ha h hi hk) (fun _ => by rw [cmpId_refl]; omega)
  rw [e]
  exact ⟨hi, List.getElem?_eq_getElem hi⟩

set_option maxHeartbeats 1000000 in
/-- (graph).index: the place of an identifier. -/
theorem graph_index (A : Option Addr) (c : Nat) (l : List Ident) (ev : Value) (x : Ident) (w : World) (hev : ∃ a n k, ev = .slice a n k) (hl : SliceIs w w.heap.size Ident.cells 4 A l) (hn : l.length ≤ 1000000) (ha : Asc l) :
    Calls Try.prog 57 #[.agg #[.slice A l.length c, ev], .agg #[.string x.ns, .int .i64 x.val.kind, .int .i64 x.val.num, .string x.val.text]] w fun e w' =>
      e = .returned (.int .i64 (insK l x)) ∧ Below w.heap.size w w' := by
  obtain ⟨ea, en, ek, rfl⟩ := hev
  go_enter Try.func57, Try.ntmps57
  go_wp2_with ((go_at_call 82; (with_reducible refine (search_any A c l x _ ?_ hn ha).mono ?_); (exact hl.next (by repeat (first | with_reducible exact Below.refl _ _ | with_reducible assumption | (with_reducible refine Below.setCell ?_ ?_ _; rotate_left; focus (first | exact Nat.le_refl _ | exact Nat.le_add_right _ _ | (simp; done) | (simp; omega) | omega)) | (with_reducible refine Below.alloc ?_ ?_ _; rotate_left; focus (first | exact Nat.le_refl _ | exact Nat.le_add_right _ _ | (simp; done) | (simp; omega) | omega)) | with_reducible refine Below.drew ?_ | with_reducible refine below_drewN ?_ _ | (with_reducible refine below_nextN ?_ (by with_reducible assumption) ?_; rotate_left; focus (first | exact Nat.le_refl _ | exact Nat.le_add_right _ _ | (simp; done) | (simp; omega) | omega))))); rintro e w1 ⟨⟨b, rfl⟩, hb1⟩; have hx1 : Below w.heap.size w w1 := below_nextN (by repeat (first | with_reducible exact Below.refl _ _ | with_reducible assumption | (with_reducible refine Below.setCell ?_ ?_ _; rotate_left; focus (first | exact Nat.le_refl _ | exact Nat.le_add_right _ _ | (simp; done) | (simp; omega) | omega)) | (with_reducible refine Below.alloc ?_ ?_ _; rotate_left; focus (first | exact Nat.le_refl _ | exact Nat.le_add_right _ _ | (simp; done) | (simp; omega) | omega)) | with_reducible refine Below.drew ?_ | with_reducible refine below_drewN ?_ _ | (with_reducible refine below_nextN ?_ (by with_reducible assumption) ?_; rotate_left; focus (first | exact Nat.le_refl _ | exact Nat.le_add_right _ _ | (simp; done) | (simp; omega) | omega)))) hb1 (by first | exact Nat.le_refl _ | exact Nat.le_add_right _ _ | assumption | (simp; done) | (simp; omega) | omega)))
  go_ret
  exact ⟨rfl, hx1⟩
end Go.Proofs.Ytoleifehijccmaa
