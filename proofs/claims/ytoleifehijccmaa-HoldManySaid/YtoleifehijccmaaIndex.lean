/-
  slices.Index over pairs.
-/
import Derived.Test.YtoleifehijccmaaGraph
import Derived.ChangeKeysEq
namespace Go.Proofs.Ytoleifehijccmaa
set_option linter.unusedVariables false
open Go.RowKit

def pairCells (x : Nat × Nat) : List Value := [.int .i64 x.1, .int .i64 x.2]
theorem pair_len : ∀ x : Nat × Nat, (pairCells x).length = 2 := fun _ => rfl
theorem pairCells2 {w : World} {b o : Nat} {x : Nat × Nat} (h : ∀ j u, (pairCells x)[j]? = some u → w.cell? ⟨b, o + j, none⟩ = some u) :
    w.cell? ⟨b, o, none⟩ = some (.int .i64 x.1) ∧ w.cell? ⟨b, o + 1, none⟩ = some (.int .i64 x.2) := ⟨h 0 _ rfl, h 1 _ rfl⟩
def pairIdx (ps : List (Nat × Nat)) (p : Nat × Nat) : Int := if p ∈ ps then (ps.idxOf p : Int) else -1
theorem pairIdx_at {ps : List (Nat × Nat)} {p : Nat × Nat} {m : Nat} (h : m < ps.length) (he : ps[m] = p) (hn : ∀ j (h : j < ps.length), j < m → ps[j] ≠ p) : pairIdx ps p = m := by
  have hmem : p ∈ ps := by rw [← he]; exact List.getElem_mem h
  have h1 : ps.idxOf p < ps.length := List.idxOf_lt_length_of_mem hmem
  have h2 : ps[ps.idxOf p] = p := List.getElem_idxOf h1
  unfold pairIdx
  rw [if_pos hmem]
  have h3 : ¬ ps.idxOf p < m := fun h => hn _ h1 h h2
  have h4 : ps.idxOf p ≤ m := by
    rcases Nat.lt_or_ge m (ps.idxOf p) with h5 | h5
    · exact absurd he (by
        have := List.not_of_lt_findIdx (xs := ps) (p := (· == p)) h5
        simpa using this)
    · exact h5
  omega
theorem pairIdx_none {ps : List (Nat × Nat)} {p : Nat × Nat} (hn : ∀ j (h : j < ps.length), ps[j] ≠ p) : pairIdx ps p = -1 := by
  unfold pairIdx
  rw [if_neg]
  intro h
  obtain ⟨i, hi, he⟩ := List.getElem_of_mem h
  exact hn i hi he
theorem eqlPair (x y : Nat × Nat) {b : Bool} (h : decide (x = y) = b) : ∀ w : World, (Op.equalIn 10000 91 (.agg #[.int .i64 (x.1 : Int), .int .i64 (x.2 : Int)]) (.agg #[.int .i64 (y.1 : Int), .int .i64 (y.2 : Int)])).run Try.prog w = .ok b w := by
  subst h
  intro w
  obtain ⟨i0, hi0, hz0, hz1, hz2⟩ := info_parts infoInt
  have hA : Try.prog.underlying 91 = some (.array 2 3) := Try.underlying91
  have hc : Try.prog.cellsOf 3 = 1 := by kernel_rfl
  have u3 := Try.underlying3
  rw [show (10000 : Nat) = 9999 + 1 from rfl, run_equalIn_array (w := w) 9999 _ _ hA hi0, hc]
  obtain ⟨a, b⟩ := x
  obtain ⟨a', b'⟩ := y
  simp only [show List.range 2 = [0, 1] from rfl, Op.eqItems]
  go_simp
  by_cases h0 : a = a' <;> by_cases h1 : b = b' <;> simp [h0, h1] <;> omega

set_option maxRecDepth 100000 in
set_option maxHeartbeats 1000000 in
theorem index_any (A : Option Addr) (c : Nat) (ps : List (Nat × Nat)) (p : Nat × Nat) (w : World) (hl : SliceIs w w.heap.size pairCells 2 A ps) (hn : ps.length ≤ 1000000) :
    Calls Try.prog 70 #[.slice A ps.length c, .agg #[.int .i64 p.1, .int .i64 p.2]] w fun e w' =>
      e = .returned (.int .i64 (pairIdx ps p)) ∧ Below w.heap.size w w' := by
  go_enter Try.func70, Try.ntmps70
  go_wp2
  go_loopw [8] (fun vi wr => ∃ m : Nat, m ≤ ps.length ∧ vi = .int .i64 m ∧ Below w.heap.size w wr ∧ (∀ y u, (pairCells p)[y]? = some u → wr.cell? ⟨w.heap.size, 0 + y, none⟩ = some u) ∧ w.heap.size < wr.heap.size ∧ (∀ j (h : j < ps.length), j < m → ps[j] ≠ p)) (fun vi _ => ps.length - (intOf vi).toNat)
  case atStart => exact ⟨0, Nat.zero_le _, rfl, by repeat (first | with_reducible exact Below.refl _ _ | with_reducible assumption | (with_reducible refine Below.setCell ?_ ?_ _; rotate_left; focus (first | exact Nat.le_refl _ | exact Nat.le_add_right _ _ | (simp; done) | (simp; omega) | omega)) | (with_reducible refine Below.alloc ?_ ?_ _; rotate_left; focus (first | exact Nat.le_refl _ | exact Nat.le_add_right _ _ | (simp; done) | (simp; omega) | omega)) | with_reducible refine Below.drew ?_ | with_reducible refine below_drewN ?_ _ | (with_reducible refine below_nextN ?_ (by with_reducible assumption) ?_; rotate_left; focus (first | exact Nat.le_refl _ | exact Nat.le_add_right _ _ | (simp; done) | (simp; omega) | omega))), fun j u hu => by simpa [pairCells] using hu, by simp, fun j _ h => absurd h (by omega)⟩
  case round =>
    obtain ⟨m, hm, rfl, hbw, hx, hz, hno⟩ := hrel
    obtain ⟨x0, x1⟩ := pairCells2 hx
    simp only [Nat.zero_add] at x1
    have HX := Lib.hid hx
    have HNO := Lib.hid hno
    clear hx hno
    have hk1 := keepQ (w := wr) w.heap.size hz
    by_cases hlt : m < ps.length
    · obtain ⟨b, o, rfl, hb, hc⟩ := (hl.below hbw).get hlt
      obtain ⟨h0, h1⟩ := pairCells2 hc
      have hk0 := keepQ (w := wr) b (by have := hbw.size; omega)
      clear hc
      cases hbb : decide (p = ps[m]) with
      | true =>
        have he : ps[m] = p := by have : p = ps[m] := by simpa using hbb
                                  exact this.symm
        have heq := eqlPair p ps[m] hbb
        have HE := Lib.hid he
        clear he hbb
        go_wp2
        refine wp_region_bel (by kernel_rfl) (by kernel_rfl) ?_; (repeat (go_big_quiet_step (fail))); refine wpQuiet_nil ?_; intro wq hq
        have hq' := below_nextN hbw hq hbw.size
        go_wp2
        go_ret
        exact ⟨ret_int (pairIdx_at hlt HE.out HNO.out).symm, hq'⟩
      | false =>
        have hne : ps[m] ≠ p := fun h => by simp [h] at hbb
        have heq := eqlPair p ps[m] hbb
        have HNE := Lib.hid hne
        clear hne hbb
        go_wp2
        refine wp_region_bel (by kernel_rfl) (by kernel_rfl) ?_; (repeat (go_big_quiet_step (fail))); refine wpQuiet_nil ?_; intro wq hq
        have hq' := below_nextN hbw hq hbw.size
        go_wp2
        go_roundw
        case rel => exact ⟨m + 1, by omega, by go_num, hq', fun y u hu => (hq.cell (by exact hz)).trans (HX.out y u hu), by have := hq.size; omega, fun j h hj => by
          rcases Nat.lt_or_ge j m with hjm | hjm
          · exact HNO.out j h hjm
          · obtain rfl : j = m := by omega
            exact HNE.out⟩
        case measure => simp [intOf]; omega
    · go_wp2
      go_ret
      exact ⟨ret_int (pairIdx_none (fun j h => HNO.out j h (by omega))).symm, hbw⟩
end Go.Proofs.Ytoleifehijccmaa
