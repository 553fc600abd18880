/-
  The sanity check of the laws of holds; equal lists of numbers.
-/
import Derived.Test.YtoleifehijccmaaUntil
namespace Go.Proofs.Ytoleifehijccmaa
set_option linter.unusedVariables false
open Go.RowKit

theorem Blk.all {α : Type} {w : World} {g B k : Nat} {t : TypeId} {enc : α → List Value} {l : List α} (hk : ∀ x, (enc x).length = k) (h : Blk w g t (l.flatMap enc).toArray) (hB : g < B) : SliceIs w B enc k (some ⟨g, 0, none⟩) l :=
  fun _ => ⟨g, 0, rfl, hB, fun i hi j u hu => by rw [h.cell, Nat.zero_add]; simpa using flat_get hk l i hi j u hu⟩
set_option maxRecDepth 100000 in
set_option maxHeartbeats 1000000 in
theorem sameInts (A A' : Option Addr) (c c' n n' : Nat) (a b : List Int) (w : World) (ha : SliceIs w w.heap.size intCells 1 A a) (hb : SliceIs w w.heap.size intCells 1 A' b) (hna : a.length = n) (hnb : b.length = n') (hn : n ≤ 1000000) (hn' : n' ≤ 1000000) {r : Bool} (hr : decide (a = b) = r) :
    Calls Try.prog 64 #[.slice A n c, .slice A' n' c'] w fun e w' => e = .returned (.bool r) ∧ Below w.heap.size w w' := by
  subst hna hnb hr
  have HA := Lib.hid ha
  have HB := Lib.hid hb
  clear ha hb
  by_cases hl : a.length = b.length
  · have hl' : ((a.length : Int) == (b.length : Int)) = true := by rw [hl]; simp
    have HLL := Lib.hid hl
    go_enter Try.func64, Try.ntmps64
    go_wp2_with fail
    clear hl hl'
    go_loopw [5] (fun vi wr => ∃ m : Nat, m ≤ a.length ∧ vi = .int .i64 m ∧ Below w.heap.size w wr ∧ (∀ i (h : i < a.length) (h' : i < b.length), i < m → a[i] = b[i])) (fun vi _ => a.length - (intOf vi).toNat)
    case atStart => exact ⟨0, Nat.zero_le _, rfl, by repeat (first | with_reducible exact Below.refl _ _ | with_reducible assumption | (with_reducible refine Below.setCell ?_ ?_ _; rotate_left; focus (first | exact Nat.le_refl _ | exact Nat.le_add_right _ _ | (simp; done) | (simp; omega) | omega)) | (with_reducible refine Below.alloc ?_ ?_ _; rotate_left; focus (first | exact Nat.le_refl _ | exact Nat.le_add_right _ _ | (simp; done) | (simp; omega) | omega)) | with_reducible refine Below.drew ?_ | with_reducible refine below_drewN ?_ _ | (with_reducible refine below_nextN ?_ (by with_reducible assumption) ?_; rotate_left; focus (first | exact Nat.le_refl _ | exact Nat.le_add_right _ _ | (simp; done) | (simp; omega) | omega))), fun i _ _ h => by omega⟩
    case round =>
      obtain ⟨m, hm, rfl, hbw, hok⟩ := hrel
      have HOK := Lib.hid hok
      have hwz := hbw.size
      clear hok
      by_cases hlt : m < a.length
      · have hltb : m < b.length := by have := HLL.out; omega
        obtain ⟨b5, o5, rfl, hb5, hc5⟩ := (HA.out.below hbw).get hlt
        obtain ⟨b6, o6, rfl, hb6, hc6⟩ := (HB.out.below hbw).get hltb
        have x0 := hc5 0 _ rfl
        have y0 := hc6 0 _ rfl
        simp only [Nat.mul_one, Nat.add_zero] at x0 y0
        have hk0 := keepQ (w := wr) b5 (by omega)
        have hk1 := keepQ (w := wr) b6 (by omega)
        clear hc5 hc6
        cases he : (a[m] != b[m])
        · have HE := Lib.hid he
          go_upto_region 6 with (fail)
          refine wp_region_bel (by kernel_rfl) (by kernel_rfl) ?_; (repeat (go_big_quiet_step (fail))); refine wpQuiet_nil ?_; intro wq hq
          clear he
          go_wp2_with fail
          go_roundw
          case rel => exact ⟨m + 1, by omega, by go_num, below_nextN hbw hq hwz, fun i h h' hi => by
            rcases Nat.lt_or_ge i m with h1 | h1
            · exact HOK.out i h h' h1
            · obtain rfl : i = m := by omega
              exact by simpa using HE.out⟩
          case measure => simp [intOf]; omega
        · have HE := Lib.hid he
          go_upto_region 6 with (fail)
          refine wp_region_bel (by kernel_rfl) (by kernel_rfl) ?_; (repeat (go_big_quiet_step (fail))); refine wpQuiet_nil ?_; intro wq hq
          clear he
          go_wp2_with fail
          go_ret
          refine ⟨ret_bool ?_, below_nextN hbw hq hwz⟩
          symm
          rw [decide_eq_false_iff_not]
          rintro rfl
          have := HE.out
          simp at this
      · have hlt' : decide (m < a.length) = false := by simpa using hlt
        go_wp2_with fail
        go_ret
        refine ⟨ret_bool ?_, hbw⟩
        symm
        rw [decide_eq_true_iff]
        exact List.ext_getElem HLL.out fun i h h' => HOK.out i h h' (by omega)
  · have hl' : ((a.length : Int) == (b.length : Int)) = false := by rw [beq_eq_false_iff_ne]; omega
    go_enter Try.func64, Try.ntmps64
    go_wp2_with fail
    go_ret
    refine ⟨ret_bool ?_, by repeat (first | with_reducible exact Below.refl _ _ | with_reducible assumption | (with_reducible refine Below.setCell ?_ ?_ _; rotate_left; focus (first | exact Nat.le_refl _ | exact Nat.le_add_right _ _ | (simp; done) | (simp; omega) | omega)) | (with_reducible refine Below.alloc ?_ ?_ _; rotate_left; focus (first | exact Nat.le_refl _ | exact Nat.le_add_right _ _ | (simp; done) | (simp; omega) | omega)) | with_reducible refine Below.drew ?_ | with_reducible refine below_drewN ?_ _ | (with_reducible refine below_nextN ?_ (by with_reducible assumption) ?_; rotate_left; focus (first | exact Nat.le_refl _ | exact Nat.le_add_right _ _ | (simp; done) | (simp; omega) | omega)))⟩
    symm
    rw [decide_eq_false_iff_not]
    rintro rfl
    exact hl rfl
def hA : Hold := ⟨-1, -1, noId, 1, 3, 5⟩
def hB : Hold := ⟨-1, -1, noId, 1, 5, 9⟩
theorem ab_valid : validHolds [hA, hB] = true := by
  have h1 : holdOk hA = true := (holdOk_iff _).2 ⟨by decide, by decide, by decide, by decide, fun _ => rfl, by decide, by decide, .inl rfl, by decide, by decide, by decide⟩
  have h2 : holdOk hB = true := (holdOk_iff _).2 ⟨by decide, by decide, by decide, by decide, fun _ => rfl, by decide, by decide, .inl rfl, by decide, by decide, by decide⟩
  simp [validHolds, h1, h2]
theorem ab_sane : SaneH [hA, hB] := by
  intro x hx
  simp only [List.mem_cons, List.not_mem_nil, or_false] at hx
  rcases hx with rfl | rfl <;> exact Nat.zero_le _
theorem no_links : validLinks [] = true := by rfl
theorem all_covers {x : Hold} (h1 : x.table = -1) (h2 : x.column = -1) (h3 : x.who = noId) (l : List Link) (t c : Int) (own : List Ident) : coversB x l t c own = true := by
  unfold coversB concernsB
  rw [h1, h2, h3]
  simp
theorem ab_blocking : blocking [hA, hB] [] 0 0 [] 4 = [0] := by
  have c1 := all_covers (x := hA) rfl rfl rfl [] 0 0 []
  have c2 := all_covers (x := hB) rfl rfl rfl [] 0 0 []
  have a1 : activeOn hA 4 = true := by decide
  have a2 : activeOn hB 4 = false := by decide
  rw [blocking, ab_valid, no_links, if_pos (by rfl)]
  show blockTo [hA, hB] [] 0 0 [] 4 (0 + 1 + 1) = [0]
  rw [blockTo_step (by simp), blockTo_step (by simp)]
  simp [c1, a1, a2, blockTo]
theorem ab_until {r : Int} (h : UntilOut (covering [hA, hB] [] 0 0 [] 4) 4 r) : r = 9 := by
  have c1 := all_covers (x := hA) rfl rfl rfl [] 0 0 []
  have c2 := all_covers (x := hB) rfl rfl rfl [] 0 0 []
  have e : covering [hA, hB] [] 0 0 [] 4 = [hA, hB] := by
    unfold covering
    rw [List.filter_cons_of_pos (by rw [c1]; rfl), List.filter_cons_of_pos (by rw [c2]; rfl)]
    rfl
  rw [e] at h
  obtain ⟨u, hu, hf, hr⟩ := h
  have f1 := hf hA (by simp)
  have f2 := hf hB (by simp)
  have n1 : ¬ (3 ≤ u ∧ u < 5) := fun k => by rw [(active_iff (x := hA)).2 k] at f1; cases f1
  have n2 : ¬ (5 ≤ u ∧ u < 9) := fun k => by rw [(active_iff (x := hB)).2 k] at f2; cases f2
  have hl := hu.le
  have h9 : u ≤ 9 := by
    rcases Int.lt_or_le 9 u with k | k
    · obtain ⟨x, hx, ha⟩ := hu.held 9 (by omega) k
      simp only [List.mem_cons, List.not_mem_nil, or_false] at hx
      rcases hx with rfl | rfl <;> exact absurd ha (by decide)
    · exact k
  rw [hr, if_neg (by omega)]
  omega
theorem ab_over {r : Int} (h : UntilOut (covering [hA, hB] [] 0 0 [] 9) 9 r) : r = 0 := by
  have e : covering [hA, hB] [] 0 0 [] 9 = [] := by
    unfold covering
    rw [List.filter_cons_of_neg (by rw [show decide ((9 : Int) < hA.day1) = false by decide]; simp), List.filter_cons_of_neg (by rw [show decide ((9 : Int) < hB.day1) = false by decide]; simp)]
    rfl
  rw [e] at h
  obtain ⟨u, hu, _, hr⟩ := h
  have hl := hu.le
  rcases Int.lt_or_le 9 u with k | k
  · obtain ⟨x, hx, _⟩ := hu.held 9 (by omega) k
    cases hx
  · rw [hr, if_pos (by omega)]
set_option maxRecDepth 100000 in
set_option maxHeartbeats 2000000 in
theorem hawake_any (w : World) : Calls Try.prog 32 #[] w fun e w' => e = .returned (.bool true) ∧ Below w.heap.size w w' := by
  go_enter Try.func32, Try.ntmps32
  go_upto_region 2 with (fail)
  refine abs_world (P := fun u => Code.wp _ _ _ _ u) (R := fun u => SliceIs u (w.heap.size + 1) Hold.cells 9 (some ⟨w.heap.size, 0, none⟩) [hA, hB] ∧ Below w.heap.size w u ∧ w.heap.size < u.heap.size) ⟨?_, ?_, ?_⟩ ?_
  · exact Blk.all (t := 52) (l := [hA, hB]) hold_len (Blk.new _ _ _) (by simp)
  · repeat (first | with_reducible exact Below.refl _ _ | with_reducible assumption | (with_reducible refine Below.setCell ?_ ?_ _; rotate_left; focus (first | exact Nat.le_refl _ | exact Nat.le_add_right _ _ | (simp; done) | (simp; omega) | omega)) | (with_reducible refine Below.alloc ?_ ?_ _; rotate_left; focus (first | exact Nat.le_refl _ | exact Nat.le_add_right _ _ | (simp; done) | (simp; omega) | omega)) | with_reducible refine Below.drew ?_ | with_reducible refine below_drewN ?_ _ | (with_reducible refine below_nextN ?_ (by with_reducible assumption) ?_; rotate_left; focus (first | exact Nat.le_refl _ | exact Nat.le_add_right _ _ | (simp; done) | (simp; omega) | omega)))
  · simp
  rintro W ⟨hsl, hbW, hzW⟩
  obtain ⟨b5, o5, e5, hb5, hc5⟩ := hsl.get (i := 0) (by simp)
  injection e5 with e5
  injection e5 with e51 e52
  subst e51 e52
  obtain ⟨g0, g1, ⟨g2, g3, g4, g5⟩, g6, g7, g8⟩ := Hold.cells9 hc5
  simp only [List.getElem_cons_zero, hA, noId, Nat.zero_mul, Nat.add_zero, Nat.zero_add] at g0 g1 g2 g3 g4 g5 g6 g7 g8
  have HS := Lib.hid (hsl.mono (show w.heap.size + 1 ≤ W.heap.size by omega))
  have HVV := Lib.hid ab_valid
  clear hc5 hsl
  go_wp2_with fail
  refine (hold_ValidB (some ⟨w.heap.size, 0, none⟩) 2 2 [hA, hB] _ HS.out rfl (by omega) ab_sane ab_valid).mono ?_
  rintro e w1 ⟨rfl, hb1⟩
  have hx1 := below_nextN hbW hb1 hbW.size
  have k1 := (keepB hb1 w.heap.size hzW).1
  go_wp2_with fail
  refine (hold_ActiveB hA 4 _ (r := true) (by decide)).mono ?_
  rintro e w2 ⟨rfl, hb2⟩
  have hy2 := below_nextN hb1 hb2.1 hb1.size
  have k2 := (keepB hy2 w.heap.size hzW).1
  go_wp2_with fail
  refine (hold_ActiveB hA 5 _ (r := false) (by decide)).mono ?_
  rintro e w3 ⟨rfl, hb3⟩
  have hy3 := below_nextN hy2 hb3.1 hy2.size
  clear k1 k2 g0 g1 g2 g3 g4 g5 g6 g7 g8
  go_wp2_with fail
  refine (hold_Blocking (some ⟨w.heap.size, 0, none⟩) 2 2 [hA, hB] none 0 0 [] 0 0 0 0 0 none 0 0 [] false false 4 _ (HS.out.next hy3) rfl (by omega) ab_sane SliceIs.nil rfl (by omega) (fun x hx => by cases hx) SliceIs.nil rfl (by omega)).mono ?_
  rintro e w4 ⟨⟨v4, rfl, hown4⟩, hb4⟩
  have hy4 := below_nextN hy3 hb4 hy3.size
  rw [ab_blocking] at hown4
  obtain ⟨A4, c4, rfl, hc4, hs4, hA4⟩ := hown4.slice int_len
  have HS4 := Lib.hid hs4
  clear hs4 hown4 hA4
  go_wp2_with fail
  refine (sameInts A4 (some ⟨w4.heap.size, 0, none⟩) c4 1 1 1 [0] [0] _ (HS4.out.next (by repeat (first | with_reducible exact Below.refl _ _ | with_reducible assumption | (with_reducible refine Below.setCell ?_ ?_ _; rotate_left; focus (first | exact Nat.le_refl _ | exact Nat.le_add_right _ _ | (simp; done) | (simp; omega) | omega)) | (with_reducible refine Below.alloc ?_ ?_ _; rotate_left; focus (first | exact Nat.le_refl _ | exact Nat.le_add_right _ _ | (simp; done) | (simp; omega) | omega)) | with_reducible refine Below.drew ?_ | with_reducible refine below_drewN ?_ _ | (with_reducible refine below_nextN ?_ (by with_reducible assumption) ?_; rotate_left; focus (first | exact Nat.le_refl _ | exact Nat.le_add_right _ _ | (simp; done) | (simp; omega) | omega))))) (Blk.one (enc := intCells) (x := (0 : Int)) (Blk.new' (t := 3) rfl) (by simp)) rfl rfl (by omega) (by omega) (r := true) (by decide)).mono ?_
  rintro e w5 ⟨rfl, hb5'⟩
  have hy5 : Below W.heap.size W w5 := below_nextN (hy4.alloc hy4.size _) hb5' (by have := hy4.size; simp; omega)
  go_wp2_with fail
  refine (hold_Until (some ⟨w.heap.size, 0, none⟩) 2 2 [hA, hB] none 0 0 [] 0 0 0 0 0 none 0 0 [] false false 4 _ (HS.out.next hy5) rfl (by omega) ab_sane SliceIs.nil rfl (by omega) (fun x hx => by cases hx) SliceIs.nil rfl (by omega)).mono ?_
  rintro e w6 ⟨⟨r6, rfl, h6⟩, hb6⟩
  rw [ab_valid, no_links, if_pos (by rfl)] at h6
  obtain rfl := ab_until h6
  have hy6 := below_nextN hy5 hb6 hy5.size
  go_wp2_with fail
  refine (hold_Until (some ⟨w.heap.size, 0, none⟩) 2 2 [hA, hB] none 0 0 [] 0 0 0 0 0 none 0 0 [] false false 9 _ (HS.out.next hy6) rfl (by omega) ab_sane SliceIs.nil rfl (by omega) (fun x hx => by cases hx) SliceIs.nil rfl (by omega)).mono ?_
  rintro e w7 ⟨⟨r7, rfl, h7⟩, hb7⟩
  rw [ab_valid, no_links, if_pos (by rfl)] at h7
  obtain rfl := ab_over h7
  have hy7 := below_nextN hy6 hb7 hy6.size
  go_wp2_with fail
  go_ret
  exact ⟨rfl, below_nextN hbW hy7 hbW.size⟩
end Go.Proofs.Ytoleifehijccmaa
