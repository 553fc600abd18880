/-
  Layer 16, the reference: direct: whether link i is the last one of its pair up to a position, and not revoked.
-/
import Derived.Test.YtoleifehijccmaaList
namespace Go.Proofs.Ytoleifehijccmaa
set_option linter.unusedVariables false
open Go.RowKit

/-- Two events of one pair. -/
def samePair (x y : Link) : Bool := (decide (x.a = y.a) && decide (x.b = y.b)) || (decide (x.a = y.b) && decide (x.b = y.a))
/-- Event i is in force at a position, as the reference asks it. -/
def directB (l : List Link) (x : Link) (i : Nat) (seq : Int) : Bool :=
  decide (x.seq ≤ seq) && !x.rev && !((l.drop (i + 1)).takeWhile (fun y => decide (y.seq ≤ seq))).any (fun y => samePair y x)

theorem takeWhile_any_step {α : Type} (p q : α → Bool) (l : List α) (j m : Nat) (hm : m < l.length) (hj : j ≤ m) (hp : ∀ k (h : k < l.length), j ≤ k → k < m → p l[k] = true ∧ q l[k] = false) :
    ((l.drop j).takeWhile p).any q = ((l.drop m).takeWhile p).any q := by
  induction hd : m - j generalizing j with
  | zero => have : j = m := by omega
            rw [this]
  | succ d ih =>
    have hlt : j < l.length := by omega
    obtain ⟨h1, h2⟩ := hp j hlt (Nat.le_refl _) (by omega)
    rw [List.drop_eq_getElem_cons hlt, List.takeWhile_cons_of_pos h1, List.any_cons, h2, Bool.false_or]
    exact ih (j + 1) (by omega) (fun k h a b => hp k h (by omega) b) (by omega)
theorem takeWhile_any_end {α : Type} (p q : α → Bool) (l : List α) (j m : Nat) (hm : l.length ≤ m) (hp : ∀ k (h : k < l.length), j ≤ k → k < m → p l[k] = true ∧ q l[k] = false) :
    ((l.drop j).takeWhile p).any q = false := by
  rw [List.any_eq_false]
  intro x hx
  have hx' := (List.takeWhile_sublist p).subset hx
  rw [List.mem_iff_getElem] at hx'
  obtain ⟨k, hk, rfl⟩ := hx'
  rw [List.getElem_drop]
  have hk' : j + k < l.length := by simpa using (by simp at hk; omega : j + k < l.length)
  rw [(hp (j + k) hk' (by omega) (by omega)).2]
  simp

set_option maxRecDepth 100000 in
set_option maxHeartbeats 1000000 in
theorem ref16_direct (A : Option Addr) (c : Nat) (l : List Link) (i : Nat) (seq : Int) (w : World) (hl : SliceIs w w.heap.size Link.cells 10 A l) (hn : l.length ≤ 1000000) (hi : i < l.length) :
    Calls Try.prog 90 #[.slice A l.length c, .int .i64 i, .int .i64 seq] w fun e w' => e = .returned (.bool (directB l l[i] i seq)) ∧ Below w.heap.size w w' := by
  have hg : Try.prog.eqGuardType Try.prog.depth 27 = false := by kernel_rfl
  obtain ⟨b, o, rfl, hb, hc⟩ := hl.get hi
  obtain ⟨⟨a0, a1, a2, a3⟩, ⟨b0, b1, b2, b3⟩, s8, r9⟩ := Link.cells10 hc
  by_cases h1 : seq < l[i].seq
  · go_enter Try.func90, Try.ntmps90
    go_wp2
    go_ret
    exact ⟨ret_bool (by have : ¬ l[i].seq ≤ seq := by omega
                        simp [directB, this]), by repeat (first | with_reducible exact Below.refl _ _ | with_reducible assumption | (with_reducible refine Below.setCell ?_ ?_ _; rotate_left; focus (first | exact Nat.le_refl _ | exact Nat.le_add_right _ _ | (simp; done) | (simp; omega) | omega)) | (with_reducible refine Below.alloc ?_ ?_ _; rotate_left; focus (first | exact Nat.le_refl _ | exact Nat.le_add_right _ _ | (simp; done) | (simp; omega) | omega)) | with_reducible refine Below.drew ?_ | with_reducible refine below_drewN ?_ _ | (with_reducible refine below_nextN ?_ (by with_reducible assumption) ?_; rotate_left; focus (first | exact Nat.le_refl _ | exact Nat.le_add_right _ _ | (simp; done) | (simp; omega) | omega)))⟩
  · have h1' : l[i].seq ≤ seq := by omega
    cases hr : l[i].rev
    · rw [hr] at r9
      have HR := Lib.hid hr
      clear hr
      go_enter Try.func90, Try.ntmps90
      go_wp2
      go_loopw [7] (fun i' wr => ∃ m : Nat, i + 1 ≤ m ∧ m ≤ l.length ∧ i' = .int .i64 m ∧ Below w.heap.size w wr ∧ (∀ k (h : k < l.length), i + 1 ≤ k → k < m → decide (l[k].seq ≤ seq) = true ∧ samePair l[k] l[i] = false)) (fun i' _ => l.length - (intOf i').toNat)
      case atStart => exact ⟨i + 1, Nat.le_refl _, by omega, by go_num, by repeat (first | with_reducible exact Below.refl _ _ | with_reducible assumption | (with_reducible refine Below.setCell ?_ ?_ _; rotate_left; focus (first | exact Nat.le_refl _ | exact Nat.le_add_right _ _ | (simp; done) | (simp; omega) | omega)) | (with_reducible refine Below.alloc ?_ ?_ _; rotate_left; focus (first | exact Nat.le_refl _ | exact Nat.le_add_right _ _ | (simp; done) | (simp; omega) | omega)) | with_reducible refine Below.drew ?_ | with_reducible refine below_drewN ?_ _ | (with_reducible refine below_nextN ?_ (by with_reducible assumption) ?_; rotate_left; focus (first | exact Nat.le_refl _ | exact Nat.le_add_right _ _ | (simp; done) | (simp; omega) | omega))), fun k _ a b => by omega⟩
      case round =>
        obtain ⟨m, him, hm, rfl, hbw, hp⟩ := hrel
        have HP := Lib.hid hp
        clear hp
        by_cases hlt : m < l.length
        · obtain ⟨b', o', e, hb', hc'⟩ := (hl.below hbw).get hlt
          injection e with e
          injection e with e1 e2
          subst e1 e2
          obtain ⟨⟨a0', a1', a2', a3'⟩, ⟨b0', b1', b2', b3'⟩, s8', r9'⟩ := Link.cells10 hc'
          by_cases hs : l[m].seq ≤ seq
          · have hdr : ∀ o, wr.cell? ⟨b, o, none⟩ = w.cell? ⟨b, o, none⟩ := fun o => hbw.cell (p := ⟨b, o, none⟩) hb
            have hk0 := keepQ (w := wr) b (by have := hbw.size; omega)
            clear hc hc'
            rw [hdr] at a0' a1' a2' a3' b0' b1' b2' b3' s8' r9'
            clear r9 r9' s8
            go_wp2
            cases h1 : decide (l[m].a = l[i].a) <;> cases h2 : decide (l[m].b = l[i].b) <;> cases h3 : decide (l[m].a = l[i].b) <;> cases h4 : decide (l[m].b = l[i].a)
            all_goals
              have e1 := eqlId_of h1
              have e2 := eqlId_of h2
              have e3 := eqlId_of h3
              have e4 := eqlId_of h4
              have H1 := Lib.hid h1
              have H2 := Lib.hid h2
              have H3 := Lib.hid h3
              have H4 := Lib.hid h4
              clear h1 h2 h3 h4
              refine wp_region_bel (by kernel_rfl) (by kernel_rfl) ?_; (repeat (go_big_quiet_step (fail))); refine wpQuiet_nil ?_; intro wq hq
              clear e1 e2 e3 e4 hk0 hdr a0 a1 a2 a3 b0 b1 b2 b3 a0' a1' a2' a3' b0' b1' b2' b3' s8'
              have hq' := below_nextN hbw hq hbw.size
              go_wp2
              first
                | (have hsp : samePair l[m] l[i] = false := by simp only [samePair, H1.out, H2.out, H3.out, H4.out]; rfl
                   go_roundw
                   case rel => exact ⟨m + 1, by omega, by omega, by go_num, hq', fun k h a b => by
                     rcases Nat.lt_or_ge k m with hk | hk
                     · exact HP.out k h a hk
                     · obtain rfl : k = m := by omega
                       exact ⟨by simpa using hs, hsp⟩⟩
                   case measure => simp [intOf]; omega)
                | (have hsp : samePair l[m] l[i] = true := by simp only [samePair, H1.out, H2.out, H3.out, H4.out]; rfl
                   go_ret
                   refine ⟨ret_bool ?_, hq'⟩
                   rw [directB, takeWhile_any_step _ _ l (i + 1) m hlt him HP.out, List.drop_eq_getElem_cons hlt, List.takeWhile_cons_of_pos (by simpa using hs), List.any_cons, hsp]
                   simp)
          · have hs' : decide (l[m].seq ≤ seq) = false := by simpa using hs
            clear hc hc'
            go_wp2
            go_ret
            refine ⟨ret_bool ?_, hbw⟩
            rw [directB, takeWhile_any_step _ _ l (i + 1) m hlt him HP.out, List.drop_eq_getElem_cons hlt, List.takeWhile_cons_of_neg (by simpa using hs)]
            simp [HR.out, h1']
        · go_wp2
          go_ret
          refine ⟨ret_bool ?_, hbw⟩
          rw [directB, takeWhile_any_end _ _ l (i + 1) m (by omega) HP.out]
          simp [HR.out, h1']
    · rw [hr] at r9
      have HR := Lib.hid hr
      clear hr
      go_enter Try.func90, Try.ntmps90
      go_wp2
      go_ret
      exact ⟨ret_bool (by simp [directB, HR.out]), by repeat (first | with_reducible exact Below.refl _ _ | with_reducible assumption | (with_reducible refine Below.setCell ?_ ?_ _; rotate_left; focus (first | exact Nat.le_refl _ | exact Nat.le_add_right _ _ | (simp; done) | (simp; omega) | omega)) | (with_reducible refine Below.alloc ?_ ?_ _; rotate_left; focus (first | exact Nat.le_refl _ | exact Nat.le_add_right _ _ | (simp; done) | (simp; omega) | omega)) | with_reducible refine Below.drew ?_ | with_reducible refine below_drewN ?_ _ | (with_reducible refine below_nextN ?_ (by with_reducible assumption) ?_; rotate_left; focus (first | exact Nat.le_refl _ | exact Nat.le_add_right _ _ | (simp; done) | (simp; omega) | omega)))⟩
end Go.Proofs.Ytoleifehijccmaa
