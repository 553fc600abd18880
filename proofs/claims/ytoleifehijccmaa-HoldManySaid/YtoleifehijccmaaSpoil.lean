/-
  The laws' generator of spoilt links: some list of links, one longer at most, with short names.
-/
import Derived.Test.YtoleifehijccmaaLinks
namespace Go.Proofs.Ytoleifehijccmaa
set_option linter.unusedVariables false
open Go.RowKit

theorem flat_set1 {α : Type} {enc : α → List Value} {k : Nat} (hk : ∀ x, (enc x).length = k) : ∀ (l : List α) (i j : Nat) (x : α) (u : Value) (hi : i < l.length), j < k → enc x = (enc l[i]).set j u → (l.flatMap enc).set (i * k + j) u = (l.set i x).flatMap enc
  | y :: l, 0, j, x, u, _, hj, hx => by
    rw [List.set_cons_zero, List.flatMap_cons, List.flatMap_cons, hx, Nat.zero_mul, Nat.zero_add, List.set_append_left _ _ (by rw [hk]; exact hj)]
    rfl
  | y :: l, i + 1, j, x, u, hi, hj, hx => by
    have ih := flat_set1 hk l i j x u (by simpa using hi) hj hx
    rw [List.set_cons_succ, List.flatMap_cons, List.flatMap_cons, ← ih, Nat.add_mul, Nat.one_mul, show i * k + k + j = (enc y).length + (i * k + j) by rw [hk]; omega, List.set_append_right _ _ (by omega), Nat.add_sub_cancel_left]
/-- A store into one cell of an element of an own slice. -/
theorem Owns.store1 {α : Type} {w : World} {base : Nat} {e : TypeId} {enc : α → List Value} {k g cap n : Nat} {l : List α} (hk : ∀ x, (enc x).length = k) (h : Owns w base e enc k (.slice (some ⟨g, 0, none⟩) n cap) l) (hn : n = l.length) {i : Nat} (hi : i < l.length) (x : α) {j o : Nat} {u : Value} (hj : j < k) (ho : o = i * k + j) (hx : enc x = (enc l[i]).set j u) :
    Owns (w.setCell ⟨g, o, none⟩ u) base e enc k (.slice (some ⟨g, 0, none⟩) n cap) (l.set i x) := by
  subst hn ho
  obtain ⟨h0, _⟩ := World.ownsRow.stored h (i * k + j) u
  rw [flat_set1 hk l i j x u hi hj hx] at h0
  unfold Owns
  rw [List.length_set]
  exact h0
theorem sane_set {l : List Link} (hs : Sane l) (i : Nat) {x : Link} (hx : x.a.ns.size ≤ 1000000 ∧ x.b.ns.size ≤ 1000000) : Sane (l.set i x) := by
  intro y hy
  rcases List.mem_or_eq_of_mem_set hy with h | rfl
  · exact hs y h
  · exact hx
theorem Owns.one {α : Type} {w : World} {g base k : Nat} {t : TypeId} {enc : α → List Value} {x : α} (h : Blk w g t (enc x).toArray) (hb : base ≤ g) (hk : ∀ x, (enc x).length = k) : Owns w base t enc k (.slice (some ⟨g, 0, none⟩) 1 1) [x] :=
  ⟨by simp [hk], .inr ⟨g, 1, (enc x).toArray, rfl, hb, h, Nat.le_refl _, by decide, by simp [hk], by simp [← hk x]⟩⟩
/-- What a spoilt list is. -/
def Spoilt (w w' : World) (g b n : Nat) (v : Value) : Prop := ∃ out : List Link, Owns w' w.heap.size 29 Link.cells 10 v out ∧ Sane out ∧ out.length ≤ n + 1 ∧ IsTape w' g b ∧ w.grownBy w' (some g)
set_option maxRecDepth 100000 in
set_option maxHeartbeats 4000000 in
theorem tape_SpoilLinks (g b : Nat) (A : Option Addr) (c n : Nat) (l : List Link) (w : World) (hk : IsTape w g b) (hl : SliceIs w w.heap.size Link.cells 10 A l) (hln : l.length = n) (hn : n ≤ 1000) (hs : Sane l) :
    Calls Try.prog 24 #[.pointer (some ⟨g, 0, none⟩), .slice A n c] w fun e w' =>
      ∃ v, e = .returned v ∧ Spoilt w w' g b n v := by
  subst hln
  obtain ⟨i0, hi0, hz0, hz1, hz2⟩ := info_parts infoLink
  have hgl := hk.ltg
  have hbl := hk.lt
  have HK := Lib.hid hk
  have HL := Lib.hid hl
  have HS := Lib.hid hs
  clear hk hl hs
  by_cases h0 : l.length = 0
  · have h0' : ((l.length : Int) == 0) = true := by rw [h0]; rfl
    clear hi0 hz0 hz1 hz2
    go_enter Try.func24, Try.ntmps24
    go_wp2
    go_ret
    refine ⟨_, rfl, [⟨⟨⟨#[]⟩, 0, 0, ⟨#[]⟩⟩, ⟨⟨#[]⟩, 0, 0, ⟨#[]⟩⟩, 1, false⟩], Owns.one (Blk.new' rfl) (Nat.le_refl _) link_len, ?_, by simp, HK.out.alloc _, only_of_below (by repeat (first | with_reducible exact Below.refl _ _ | with_reducible assumption | (with_reducible refine Below.setCell ?_ ?_ _; rotate_left; focus (first | exact Nat.le_refl _ | exact Nat.le_add_right _ _ | (simp; done) | (simp; omega) | omega)) | (with_reducible refine Below.alloc ?_ ?_ _; rotate_left; focus (first | exact Nat.le_refl _ | exact Nat.le_add_right _ _ | (simp; done) | (simp; omega) | omega)) | with_reducible refine Below.drew ?_ | with_reducible refine below_drewN ?_ _ | (with_reducible refine below_nextN ?_ (by with_reducible assumption) ?_; rotate_left; focus (first | exact Nat.le_refl _ | exact Nat.le_add_right _ _ | (simp; done) | (simp; omega) | omega)))) _⟩
    intro x hx
    obtain rfl := List.mem_singleton.1 hx
    exact ⟨Nat.zero_le _, Nat.zero_le _⟩
  · have h0' : ((l.length : Int) == 0) = false := by rw [beq_eq_false_iff_ne]; omega
    have hA : ∃ b5 o5, A = some ⟨b5, o5, none⟩ := by
      obtain ⟨b5, o5, h, _⟩ := HL.out (by omega)
      exact ⟨b5, o5, h⟩
    go_enter Try.func24, Try.ntmps24
    go_upto_region 3 with (fail)
    go_wp2_with ((at_builtin; go_must (refine wpList_append_list _ rfl (.tmp 12) (.tmp 13) 22 rfl 29 i0 _ Link.cells 10 112 Try.underlying22 hi0 hz0 hz1 hz2 rfl (by omega) link_len link_one w.heap.size (.slice (some ⟨w.heap.size, 0, none⟩) 0 0) [] rfl (Owns.empty (Blk.new' rfl) (Nat.le_refl _)) _ _ _ l rfl rfl (HL.out.next (by repeat (first | with_reducible exact Below.refl _ _ | with_reducible assumption | (with_reducible refine Below.setCell ?_ ?_ _; rotate_left; focus (first | exact Nat.le_refl _ | exact Nat.le_add_right _ _ | (simp; done) | (simp; omega) | omega)) | (with_reducible refine Below.alloc ?_ ?_ _; rotate_left; focus (first | exact Nat.le_refl _ | exact Nat.le_add_right _ _ | (simp; done) | (simp; omega) | omega)) | with_reducible refine Below.drew ?_ | with_reducible refine below_drewN ?_ _ | (with_reducible refine below_nextN ?_ (by with_reducible assumption) ?_; rotate_left; focus (first | exact Nat.le_refl _ | exact Nat.le_add_right _ _ | (simp; done) | (simp; omega) | omega))))) (by simp; omega) (by simp [maxLen]; omega) (by simp) ?_); intro v' w1 hown' hg' hat'; have hbel : Below w.heap.size w w1 := Below.grown (by repeat (first | with_reducible exact Below.refl _ _ | with_reducible assumption | (with_reducible refine Below.setCell ?_ ?_ _; rotate_left; focus (first | exact Nat.le_refl _ | exact Nat.le_add_right _ _ | (simp; done) | (simp; omega) | omega)) | (with_reducible refine Below.alloc ?_ ?_ _; rotate_left; focus (first | exact Nat.le_refl _ | exact Nat.le_add_right _ _ | (simp; done) | (simp; omega) | omega)) | with_reducible refine Below.drew ?_ | with_reducible refine below_drewN ?_ _ | (with_reducible refine below_nextN ?_ (by with_reducible assumption) ?_; rotate_left; focus (first | exact Nat.le_refl _ | exact Nat.le_add_right _ _ | (simp; done) | (simp; omega) | omega)))) hg' (by simp) (own_row (Nat.le_refl _)); rw [List.nil_append] at hown'; obtain ⟨b1, cap, rfl, hbb⟩ := hat'.elim (fun h => hown'.some_form h) (fun h => hown'.some_form h); have HOWN' := Lib.hid hown'; clear hown'))
    have HK1 : Hid (IsTape w1 g b) := HK.out.below hbel
    have hG1 : w.grownBy w1 (some g) := only_of_below hbel _
    clear hg' hat' HK HL hi0 hz0 hz1 hz2
    with_reducible refine (tape_Next g b (l.length : Int) _ HK1.out (by omega) (by omega)).mono ?_
    rintro e w2 ⟨r1, rfl, hr1, hk2, hg2⟩
    have hr1' : r1 < l.length := by rcases hr1 with h | h <;> omega
    have HO2 := Lib.hid (HOWN'.out.grown hg2 (by omega))
    have hG2 := grown_trans hG1 hg2
    have HK2 := Lib.hid hk2
    clear HOWN' hg2 hk2 HK1 hG1 hr1
    go_wp2_with fail
    with_reducible refine (tape_Next g b 6 _ HK2.out (by omega) (by omega)).mono ?_
    rintro e w3 ⟨r2, rfl, hr2, hk3, hg3⟩
    have hr2' : r2 < 6 := by rcases hr2 with h | h <;> omega
    have HO3 := Lib.hid (HO2.out.grown hg3 (by omega))
    have hG3 := grown_trans hG2 hg3
    have HK3 := Lib.hid hk3
    have hb1 := HO3.out.blk_lt
    clear HO2 hg3 hk3 HK2 hG2 hr2
    rcases (show r2 = 0 ∨ r2 = 1 ∨ r2 = 2 ∨ r2 = 3 ∨ r2 = 4 ∨ r2 = 5 by omega) with rfl | rfl | rfl | rfl | rfl | rfl
    · go_wp2_with fail
      refine (tape_Next g b 5 _ (HK3.out.alloc _) (by omega) (by omega)).mono ?_
      rintro e w4 ⟨r3, rfl, hr3, hk4, hg4⟩
      have hr3' : r3 < 5 := by rcases hr3 with h | h <;> omega
      have HO4 := Lib.hid ((HO3.out.alloc _).grown hg4 (by omega))
      have hG4 := grown_trans (grown_alloc hG3 _) hg4
      have HK4 := Lib.hid hk4
      have hS4 := Blk.grown (Blk.new _ _ _) hg4 (fun e => by injection e with e; have := hG3.size; omega)
      have hz4 := hS4.lt
      obtain ⟨⟨a0, a1, a2, a3⟩, ⟨e0, e1, e2, e3⟩, s8, r9⟩ := Link.cells10 (b := b1) (o := r1 * 10) (x := l[r1]) (fun j u hu => HO4.out.getc link_len hr1' hu)
      have hfz : ∀ j, w4.frozen? ⟨b1, j, none⟩ = false := fun j => HO4.out.frz j
      clear hk4 hr3
      obtain ⟨z, hz⟩ : ∃ z : Int, w4.cell? ⟨w3.heap.size, r3, none⟩ = some (.int .i64 z) := by
        rw [hS4.cell]
        rcases (show r3 = 0 ∨ r3 = 1 ∨ r3 = 2 ∨ r3 = 3 ∨ r3 = 4 by omega) with rfl | rfl | rfl | rfl | rfl
        all_goals exact ⟨_, rfl⟩
      clear hS4 hg4
      go_wp2_with fail
      go_ret
      have hsx := HS.out _ (List.getElem_mem hr1')
      exact ⟨_, rfl, l.set r1 ⟨l[r1].a, l[r1].b, z, l[r1].rev⟩, HO4.out.store1 link_len rfl hr1' _ (j := 8) (by omega) rfl rfl, sane_set HS.out _ ⟨hsx.1, hsx.2⟩, by simp, HK4.out.far (by simp; omega) (by simp; omega) _, only_setCell hG4 (.inr (by simp; omega)) _⟩
    · obtain ⟨⟨a0, a1, a2, a3⟩, ⟨e0, e1, e2, e3⟩, s8, r9⟩ := Link.cells10 (b := b1) (o := r1 * 10) (x := l[r1]) (fun j u hu => HO3.out.getc link_len hr1' hu)
      have hfz : ∀ j, w3.frozen? ⟨b1, j, none⟩ = false := fun j => HO3.out.frz j
      go_wp2_with fail
      go_ret
      have hsx := HS.out _ (List.getElem_mem hr1')
      refine ⟨_, rfl, _, Owns.store1 link_len (Owns.store1 link_len (Owns.store1 link_len (Owns.store1 link_len HO3.out rfl hr1' ⟨⟨l[r1].b.ns, l[r1].a.val⟩, l[r1].b, l[r1].seq, l[r1].rev⟩ (j := 0) (by omega) rfl rfl) (by simp) (i := r1) (by simpa using hr1') ⟨⟨l[r1].b.ns, ⟨l[r1].b.val.kind, l[r1].a.val.num, l[r1].a.val.text⟩⟩, l[r1].b, l[r1].seq, l[r1].rev⟩ (j := 1) (by omega) rfl (by simp [Link.cells])) (by simp) (i := r1) (by simpa using hr1') ⟨⟨l[r1].b.ns, ⟨l[r1].b.val.kind, l[r1].b.val.num, l[r1].a.val.text⟩⟩, l[r1].b, l[r1].seq, l[r1].rev⟩ (j := 2) (by omega) rfl (by simp [Link.cells])) (by simp) (i := r1) (by simpa using hr1') ⟨l[r1].b, l[r1].b, l[r1].seq, l[r1].rev⟩ (j := 3) (by omega) rfl (by simp [Link.cells]), ?_, by simp, ?_, ?_⟩
      · refine sane_set (sane_set (sane_set (sane_set HS.out _ ?_) _ ?_) _ ?_) _ ?_ <;> exact ⟨hsx.2, hsx.2⟩
      · exact (((HK3.out.far (by simp; omega) (by simp; omega) _).far (by simp; omega) (by simp; omega) _).far (by simp; omega) (by simp; omega) _).far (by simp; omega) (by simp; omega) _
      · exact only_setCell (only_setCell (only_setCell (only_setCell hG3 (.inr (by simp; omega)) _) (.inr (by simp; omega)) _) (.inr (by simp; omega)) _) (.inr (by simp; omega)) _
    · go_wp2_with fail
      refine (tape_Next g b 3 _ (HK3.out.alloc _) (by omega) (by omega)).mono ?_
      rintro e w4 ⟨r3, rfl, hr3, hk4, hg4⟩
      have hr3' : r3 < 3 := by rcases hr3 with h | h <;> omega
      have HO4 := Lib.hid ((HO3.out.alloc _).grown hg4 (by omega))
      have hG4 := grown_trans (grown_alloc hG3 _) hg4
      have HK4 := Lib.hid hk4
      have hS4 := Blk.grown (Blk.new _ _ _) hg4 (fun e => by injection e with e; have := hG3.size; omega)
      have hz4 := hS4.lt
      obtain ⟨⟨a0, a1, a2, a3⟩, ⟨e0, e1, e2, e3⟩, s8, r9⟩ := Link.cells10 (b := b1) (o := r1 * 10) (x := l[r1]) (fun j u hu => HO4.out.getc link_len hr1' hu)
      have hfz : ∀ j, w4.frozen? ⟨b1, j, none⟩ = false := fun j => HO4.out.frz j
      clear hk4 hr3
      obtain ⟨z, hz, hzl⟩ : ∃ z : ByteArray, w4.cell? ⟨w3.heap.size, r3, none⟩ = some (.string z) ∧ z.size ≤ 1000000 := by
        rw [hS4.cell]
        rcases (show r3 = 0 ∨ r3 = 1 ∨ r3 = 2 by omega) with rfl | rfl | rfl
        all_goals exact ⟨_, rfl, by decide⟩
      clear hS4 hg4
      go_wp2_with fail
      go_ret
      exact ⟨_, rfl, l.set r1 ⟨⟨z, l[r1].a.val⟩, l[r1].b, l[r1].seq, l[r1].rev⟩, HO4.out.store1 link_len rfl hr1' _ (j := 0) (by omega) rfl rfl, sane_set HS.out _ ⟨hzl, (HS.out _ (List.getElem_mem hr1')).2⟩, by simp, HK4.out.far (by simp; omega) (by simp; omega) _, only_setCell hG4 (.inr (by simp; omega)) _⟩
    · go_wp2_with fail
      refine (tape_Next g b 2 _ (HK3.out.alloc _) (by omega) (by omega)).mono ?_
      rintro e w4 ⟨r3, rfl, hr3, hk4, hg4⟩
      have hr3' : r3 < 2 := by rcases hr3 with h | h <;> omega
      have HO4 := Lib.hid ((HO3.out.alloc _).grown hg4 (by omega))
      have hG4 := grown_trans (grown_alloc hG3 _) hg4
      have HK4 := Lib.hid hk4
      have hS4 := Blk.grown (Blk.new _ _ _) hg4 (fun e => by injection e with e; have := hG3.size; omega)
      have hz4 := hS4.lt
      obtain ⟨⟨a0, a1, a2, a3⟩, ⟨e0, e1, e2, e3⟩, s8, r9⟩ := Link.cells10 (b := b1) (o := r1 * 10) (x := l[r1]) (fun j u hu => HO4.out.getc link_len hr1' hu)
      have hfz : ∀ j, w4.frozen? ⟨b1, j, none⟩ = false := fun j => HO4.out.frz j
      clear hk4 hr3
      obtain ⟨z0, z1, z2, hz0, hz1, hz2⟩ : ∃ (z0 z1 : Int) (z2 : ByteArray), w4.cell? ⟨w3.heap.size, r3 * 3, none⟩ = some (.int .i64 z0) ∧ w4.cell? ⟨w3.heap.size, r3 * 3 + 1, none⟩ = some (.int .i64 z1) ∧ w4.cell? ⟨w3.heap.size, r3 * 3 + 2, none⟩ = some (.string z2) := by
        rw [hS4.cell, hS4.cell, hS4.cell]
        rcases (show r3 = 0 ∨ r3 = 1 by omega) with rfl | rfl
        all_goals exact ⟨_, _, _, rfl, rfl, rfl⟩
      clear hS4 hg4
      go_wp2_with fail
      go_ret
      have hsx := HS.out _ (List.getElem_mem hr1')
      refine ⟨_, rfl, _, Owns.store1 link_len (Owns.store1 link_len (Owns.store1 link_len HO4.out rfl hr1' ⟨l[r1].a, ⟨l[r1].b.ns, ⟨z0, l[r1].b.val.num, l[r1].b.val.text⟩⟩, l[r1].seq, l[r1].rev⟩ (j := 5) (by omega) rfl rfl) (by simp) (i := r1) (by simpa using hr1') ⟨l[r1].a, ⟨l[r1].b.ns, ⟨z0, z1, l[r1].b.val.text⟩⟩, l[r1].seq, l[r1].rev⟩ (j := 6) (by omega) rfl (by simp [Link.cells])) (by simp) (i := r1) (by simpa using hr1') ⟨l[r1].a, ⟨l[r1].b.ns, ⟨z0, z1, z2⟩⟩, l[r1].seq, l[r1].rev⟩ (j := 7) (by omega) rfl (by simp [Link.cells]), ?_, by simp, ?_, ?_⟩
      · refine sane_set (sane_set (sane_set HS.out _ ?_) _ ?_) _ ?_ <;> exact ⟨hsx.1, hsx.2⟩
      · exact ((HK4.out.far (by simp; omega) (by simp; omega) _).far (by simp; omega) (by simp; omega) _).far (by simp; omega) (by simp; omega) _
      · exact only_setCell (only_setCell (only_setCell hG4 (.inr (by simp; omega)) _) (.inr (by simp; omega)) _) (.inr (by simp; omega)) _
    · obtain ⟨⟨a0, a1, a2, a3⟩, ⟨e0, e1, e2, e3⟩, s8, r9⟩ := Link.cells10 (b := b1) (o := r1 * 10) (x := l[r1]) (fun j u hu => HO3.out.getc link_len hr1' hu)
      have hfz : ∀ j, w3.frozen? ⟨b1, j, none⟩ = false := fun j => HO3.out.frz j
      go_wp2_with fail
      go_ret
      have hsx := HS.out _ (List.getElem_mem hr1')
      exact ⟨_, rfl, l.set r1 ⟨l[r1].a, l[r1].b, l[r1].seq, !l[r1].rev⟩, HO3.out.store1 link_len rfl hr1' _ (j := 9) (by omega) rfl rfl, sane_set HS.out _ ⟨hsx.1, hsx.2⟩, by simp, HK3.out.far (by simp; omega) (by simp; omega) _, only_setCell hG3 (.inr (by simp; omega)) _⟩
    · obtain ⟨⟨a0, a1, a2, a3⟩, ⟨e0, e1, e2, e3⟩, s8, r9⟩ := Link.cells10 (b := b1) (o := r1 * 10) (x := l[r1]) (fun j u hu => HO3.out.getc link_len hr1' hu)
      obtain ⟨i0, hi0, hz0, hz1, hz2⟩ := info_parts infoLink
      go_wp2_with (at_builtin; go_must (refine wpList_append_list _ rfl (.tmp 21) (.tmp 26) 22 rfl 29 i0 _ Link.cells 10 112 Try.underlying22 hi0 hz0 hz1 hz2 rfl (by omega) link_len link_one w.heap.size (.slice (some ⟨b1, 0, none⟩) l.length cap) l rfl (HO3.out.alloc _) _ _ _ [l[r1]] rfl rfl (Blk.one (enc := Link.cells) (x := l[r1]) (Blk.new' (by simp)) (by simp)) (by simp; omega) (by simp [maxLen]; omega) (by have := hG3.size; simp at this ⊢; omega) ?_); intro v' w6 hown' hg' hat'; have HOWN' := Lib.hid hown'; clear hown'; have HK6 : Hid (IsTape w6 g b) := (HK3.out.alloc _).grownO hg' (ne_row (by omega)) (ne_row (by omega)); have HG6 : Hid (w.grownBy w6 (some g)) := grown_newO (grown_alloc hG3 _) hg' (own_row hbb))
      go_ret
      refine ⟨_, rfl, _, HOWN'.out, ?_, by simp, HK6.out, HG6.out⟩
      intro x hx
      rcases List.mem_append.1 hx with hx | hx
      · exact HS.out x hx
      · obtain rfl := List.mem_singleton.1 hx
        exact HS.out _ (List.getElem_mem hr1')
end Go.Proofs.Ytoleifehijccmaa
