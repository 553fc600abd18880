/-
  The reference of retention: SameChanges of a list with its like.
-/
import Derived.Test.YtlpgmdhnjckplaaGreatR7
import Derived.Test.YtlpgmdhnjckplaaGreatR1
set_option linter.unusedVariables false
namespace Go.Proofs.YtlpgmdhnjckplaaGreat
open Go.RowKit Go

theorem Chg.blk12 {w : World} {g : Nat} {x : Chg} (h : Blk w g 90 x.cells.toArray) :
    (w.cell? ⟨g, 0, none⟩ = some (.int .i64 x.kind) ∧ w.cell? ⟨g, 1, none⟩ = some (.int .i64 x.seq) ∧ w.cell? ⟨g, 2, none⟩ = some (.int .i64 x.day) ∧ w.cell? ⟨g, 3, none⟩ = some (.int .i64 x.table)) ∧ w.cell? ⟨g, 4, none⟩ = some (.slice x.A x.row.length x.cap) ∧
    (w.cell? ⟨g, 5, none⟩ = some (.int .i64 x.key.kind) ∧ w.cell? ⟨g, 6, none⟩ = some (.int .i64 x.key.num) ∧ w.cell? ⟨g, 7, none⟩ = some (.string x.key.text)) ∧ w.cell? ⟨g, 8, none⟩ = some (.int .i64 x.column) ∧
    w.cell? ⟨g, 9, none⟩ = some (.int .i64 x.val.kind) ∧ w.cell? ⟨g, 10, none⟩ = some (.int .i64 x.val.num) ∧ w.cell? ⟨g, 11, none⟩ = some (.string x.val.text) :=
  ⟨⟨h.cell 0, h.cell 1, h.cell 2, h.cell 3⟩, h.cell 4, ⟨h.cell 5, h.cell 6, h.cell 7⟩, h.cell 8, h.cell 9, h.cell 10, h.cell 11⟩
set_option maxRecDepth 100000 in
set_option maxHeartbeats 4000000 in
theorem ref18_Same (A A' : Option Addr) (c c' n : Nat) (l : List Chg) (w : World) (h1 : SliceIs w w.heap.size Chg.cells 12 A l) (h2 : SliceIs w w.heap.size Chg.cells 12 A' l) (hn : l.length = n) (hn6 : n ≤ 1000000) (hrow : ∀ x ∈ l, x.row = []) :
    Calls Tryz.prog 77 #[.slice A n c, .slice A' n c'] w fun e w' => e = .returned (.bool true) ∧ Below w.heap.size w w' := by
  subst hn
  have H1 := Lib.hid h1
  have H2 := Lib.hid h2
  have HROW := Lib.hid hrow
  clear h1 h2 hrow
  go_enter Tryz.func77, Tryz.ntmps77
  go_wp2_with fail
  go_loopw [5] (fun vi wr => ∃ i : Nat, i ≤ l.length ∧ vi = .int .i64 i ∧ Below w.heap.size w wr) (fun vi _ => l.length - (intOf vi).toNat)
  case atStart => exact ⟨0, Nat.zero_le _, rfl, Below.refl _ _⟩
  case round =>
    obtain ⟨i, hi, rfl, hbr⟩ := hrel
    have hwz := hbr.size
    by_cases hlt : i < l.length
    · obtain ⟨b5, o5, rfl, hb5, hc5⟩ := (H1.out.below hbr).get hlt
      obtain ⟨b6, o6, rfl, hb6, hc6⟩ := (H2.out.below hbr).get hlt
      obtain ⟨⟨p0, p1, p2, p3⟩, p4, ⟨p5, p6, p7⟩, p8, p9, p10, p11⟩ := Chg.cells12 hc5
      obtain ⟨⟨q0, q1, q2, q3⟩, q4, ⟨q5, q6, q7⟩, q8, q9, q10, q11⟩ := Chg.cells12 hc6
      have hr := HROW.out l[i] (List.getElem_mem hlt)
      obtain ⟨⟨kd, sq, dy, tb, A0, cp, row, key, cl, vl⟩, hx⟩ : ∃ x, l[i] = x := ⟨_, rfl⟩
      rw [hx] at p0 p1 p2 p3 p4 p5 p6 p7 p8 p9 p10 p11 q0 q1 q2 q3 q4 q5 q6 q7 q8 q9 q10 q11 hr
      simp only at p0 p1 p2 p3 p4 p5 p6 p7 p8 p9 p10 p11 q0 q1 q2 q3 q4 q5 q6 q7 q8 q9 q10 q11 hr
      subst hr
      simp only [List.length_nil] at p4 q4
      clear hc5 hc6 hx
      have HE1 := Lib.hid (eqlVal_of (x := key) (y := key) (decide_eq_true rfl))
      have HE2 := Lib.hid (eqlVal_of (x := vl) (y := vl) (decide_eq_true rfl))
      go_upto_region 6 with (fail)
      go_cut [6, 7] (fun v6 v7 wc => ∃ g g' : Nat, v6 = .pointer (some ⟨g, 0, none⟩) ∧ v7 = .pointer (some ⟨g', 0, none⟩) ∧ Blk wc g 90 #[.int .i64 kd, .int .i64 sq, .int .i64 dy, .int .i64 tb, .slice A0 0 cp, .int .i64 key.kind, .int .i64 key.num, .string key.text, .int .i64 cl, .int .i64 vl.kind, .int .i64 vl.num, .string vl.text] ∧ Blk wc g' 90 #[.int .i64 kd, .int .i64 sq, .int .i64 dy, .int .i64 tb, .slice A0 0 cp, .int .i64 key.kind, .int .i64 key.num, .string key.text, .int .i64 cl, .int .i64 vl.kind, .int .i64 vl.num, .string vl.text] ∧ Below wr.heap.size wr wc)
      case first =>
        have hl5 : b5 < wr.heap.size := by omega
        have hl6 : b6 < wr.heap.size := by omega
        refine wp_region_held_drew (S := fun u => (u.cell? ⟨b5, o5 + i * 12, none⟩ = some (.int .i64 kd) ∧ u.cell? ⟨b5, o5 + i * 12 + 1, none⟩ = some (.int .i64 sq) ∧ u.cell? ⟨b5, o5 + i * 12 + 2, none⟩ = some (.int .i64 dy) ∧ u.cell? ⟨b5, o5 + i * 12 + 3, none⟩ = some (.int .i64 tb) ∧ u.cell? ⟨b5, o5 + i * 12 + 4, none⟩ = some (.slice A0 0 cp) ∧ u.cell? ⟨b5, o5 + i * 12 + 5, none⟩ = some (.int .i64 key.kind) ∧ u.cell? ⟨b5, o5 + i * 12 + 6, none⟩ = some (.int .i64 key.num) ∧ u.cell? ⟨b5, o5 + i * 12 + 7, none⟩ = some (.string key.text) ∧ u.cell? ⟨b5, o5 + i * 12 + 8, none⟩ = some (.int .i64 cl) ∧ u.cell? ⟨b5, o5 + i * 12 + 9, none⟩ = some (.int .i64 vl.kind) ∧ u.cell? ⟨b5, o5 + i * 12 + 10, none⟩ = some (.int .i64 vl.num) ∧ u.cell? ⟨b5, o5 + i * 12 + 11, none⟩ = some (.string vl.text)) ∧ (u.cell? ⟨b6, o6 + i * 12, none⟩ = some (.int .i64 kd) ∧ u.cell? ⟨b6, o6 + i * 12 + 1, none⟩ = some (.int .i64 sq) ∧ u.cell? ⟨b6, o6 + i * 12 + 2, none⟩ = some (.int .i64 dy) ∧ u.cell? ⟨b6, o6 + i * 12 + 3, none⟩ = some (.int .i64 tb) ∧ u.cell? ⟨b6, o6 + i * 12 + 4, none⟩ = some (.slice A0 0 cp) ∧ u.cell? ⟨b6, o6 + i * 12 + 5, none⟩ = some (.int .i64 key.kind) ∧ u.cell? ⟨b6, o6 + i * 12 + 6, none⟩ = some (.int .i64 key.num) ∧ u.cell? ⟨b6, o6 + i * 12 + 7, none⟩ = some (.string key.text) ∧ u.cell? ⟨b6, o6 + i * 12 + 8, none⟩ = some (.int .i64 cl) ∧ u.cell? ⟨b6, o6 + i * 12 + 9, none⟩ = some (.int .i64 vl.kind) ∧ u.cell? ⟨b6, o6 + i * 12 + 10, none⟩ = some (.int .i64 vl.num) ∧ u.cell? ⟨b6, o6 + i * 12 + 11, none⟩ = some (.string vl.text))) (by kernel_rfl) ⟨⟨p0, p1, p2, p3, p4, p5, p6, p7, p8, p9, p10, p11⟩, ⟨q0, q1, q2, q3, q4, q5, q6, q7, q8, q9, q10, q11⟩⟩ (fun hHeld => ?_)
        refine tkH 0 hHeld ?_
        refine tkH 1 hHeld ?_
        refine tkH 2 hHeld ?_
        refine tkH 3 hHeld ?_
        refine tkH 4 hHeld ?_
        refine tkH 5 hHeld ?_
        refine tkH 6 hHeld ?_
        refine tkH 7 hHeld ?_
        refine wpAnyH_ready (rs := [8, 9]) (by kernel_rfl) (by simp) ?_
        refine AllReadyH.cons rfl (fun K hK => ?_) (AllReadyH.cons rfl (fun K hK => ?_) AllReadyH.nil)
        · go_simp
          refine hK.out _ _ ?_ (fun hHeld => ?_)
          · (repeat' apply And.intro) <;> go_simp
          clear hK K
          (try simp only [Act.put, List.getElem_toArray, List.getElem_cons_zero, List.getElem_cons_succ, List.setIfInBounds_toArray, List.set_cons_zero, List.set_cons_succ])
          refine wpAnyH_ready (rs := [9]) (by kernel_rfl) (by simp) ?_
          refine AllReadyH.cons rfl (fun K hK => ?_) AllReadyH.nil
          go_simp
          refine hK.out _ _ ?_ (fun hHeld => ?_)
          · (repeat' apply And.intro) <;> go_simp
          clear hK K
          (try simp only [Act.put, List.getElem_toArray, List.getElem_cons_zero, List.getElem_cons_succ, List.setIfInBounds_toArray, List.set_cons_zero, List.set_cons_succ])
          refine wpAnyH_ready (rs := [10]) (by kernel_rfl) (by simp) ?_
          refine AllReadyH.cons rfl (fun K hK => ?_) AllReadyH.nil
          go_simp
          refine hK.out _ _ ?_ (fun hHeld => ?_)
          · (repeat' apply And.intro) <;> go_simp
          clear hK K
          (try simp only [Act.put, List.getElem_toArray, List.getElem_cons_zero, List.getElem_cons_succ, List.setIfInBounds_toArray, List.set_cons_zero, List.set_cons_succ])
          refine wpAnyH_ready (rs := [11]) (by kernel_rfl) (by simp) ?_
          refine AllReadyH.cons rfl (fun K hK => ?_) AllReadyH.nil
          go_simp
          refine hK.out _ _ ?_ (fun hHeld => ?_)
          · (repeat' apply And.intro) <;> go_simp
          clear hK K
          (try simp only [Act.put, List.getElem_toArray, List.getElem_cons_zero, List.getElem_cons_succ, List.setIfInBounds_toArray, List.set_cons_zero, List.set_cons_succ])
          refine wpAnyH_done (by kernel_rfl) ?_ _
          clear hHeld
          go_wp2_with fail
          go_meet
          exact ⟨_, _, rfl, rfl, ((Blk.new _ _ _).alloc _).drew, (Blk.new' (by simp)).drew, by exact belA⟩
        · go_simp
          refine hK.out _ _ ?_ (fun hHeld => ?_)
          · (repeat' apply And.intro) <;> go_simp
          clear hK K
          (try simp only [Act.put, List.getElem_toArray, List.getElem_cons_zero, List.getElem_cons_succ, List.setIfInBounds_toArray, List.set_cons_zero, List.set_cons_succ])
          refine wpAnyH_ready (rs := [8]) (by kernel_rfl) (by simp) ?_
          refine AllReadyH.cons rfl (fun K hK => ?_) AllReadyH.nil
          go_simp
          refine hK.out _ _ ?_ (fun hHeld => ?_)
          · (repeat' apply And.intro) <;> go_simp
          clear hK K
          (try simp only [Act.put, List.getElem_toArray, List.getElem_cons_zero, List.getElem_cons_succ, List.setIfInBounds_toArray, List.set_cons_zero, List.set_cons_succ])
          refine wpAnyH_ready (rs := [10]) (by kernel_rfl) (by simp) ?_
          refine AllReadyH.cons rfl (fun K hK => ?_) AllReadyH.nil
          go_simp
          refine hK.out _ _ ?_ (fun hHeld => ?_)
          · (repeat' apply And.intro) <;> go_simp
          clear hK K
          (try simp only [Act.put, List.getElem_toArray, List.getElem_cons_zero, List.getElem_cons_succ, List.setIfInBounds_toArray, List.set_cons_zero, List.set_cons_succ])
          refine wpAnyH_ready (rs := [11]) (by kernel_rfl) (by simp) ?_
          refine AllReadyH.cons rfl (fun K hK => ?_) AllReadyH.nil
          go_simp
          refine hK.out _ _ ?_ (fun hHeld => ?_)
          · (repeat' apply And.intro) <;> go_simp
          clear hK K
          (try simp only [Act.put, List.getElem_toArray, List.getElem_cons_zero, List.getElem_cons_succ, List.setIfInBounds_toArray, List.set_cons_zero, List.set_cons_succ])
          refine wpAnyH_done (by kernel_rfl) ?_ _
          clear hHeld
          go_wp2_with fail
          go_meet
          exact ⟨_, _, rfl, rfl, (Blk.new' (by simp)).drew, ((Blk.new _ _ _).alloc _).drew, by exact belA⟩
      case rest =>
        obtain ⟨g, g', rfl, rfl, hg, hg', hbc⟩ := hcut
        obtain ⟨⟨a0, a1, a2, a3⟩, a4, ⟨a5, a6, a7⟩, a8, a9, a10, a11⟩ := Chg.blk12 (x := ⟨kd, sq, dy, tb, A0, cp, [], key, cl, vl⟩) hg
        obtain ⟨⟨e0, e1, e2, e3⟩, e4, ⟨e5, e6, e7⟩, e8, e9, e10, e11⟩ := Chg.blk12 (x := ⟨kd, sq, dy, tb, A0, cp, [], key, cl, vl⟩) hg'
        simp only [List.length_nil] at a0 a1 a2 a3 a4 a5 a6 a7 a8 a9 a10 a11 e0 e1 e2 e3 e4 e5 e6 e7 e8 e9 e10 e11
        have hyc := below_nextN hbr hbc hwz
        have HG := Lib.hid hg
        have HG' := Lib.hid hg'
        have eq1 := HE1.out
        have eq2 := HE2.out
        clear hg hg' p0 p1 p2 p3 p4 p5 p6 p7 p8 p9 p10 p11 q0 q1 q2 q3 q4 q5 q6 q7 q8 q9 q10 q11
        go_upto_region 9 with (fail)
        go_wp2_with fail
        go_loopw [8] (fun vi w3 => vi = .int .i64 0 ∧ w3 = wc) (fun vi _ => 0)
        case atStart => exact ⟨rfl, rfl⟩
        case round =>
          obtain ⟨rfl, rfl⟩ := hrel
          go_wp2_with fail
          go_roundw
          case rel => exact ⟨i + 1, by omega, by go_num, hyc⟩
          case measure => simp [intOf]; omega
    · have hlt' : decide (i < l.length) = false := by simpa using hlt
      go_wp2_with fail
      go_ret
      exact ⟨rfl, hbr⟩
end Go.Proofs.YtlpgmdhnjckplaaGreat
