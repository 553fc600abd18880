/-
  The laws' tape of numbers: New and Next.
-/
import Derived.Test.YtoleifehijccmaaRow
namespace Go.Proofs.Ytoleifehijccmaa
set_option linter.unusedVariables false
open Go.RowKit

/-- Block g is a tape whose numbers lie in block b. -/
structure IsTape (w : World) (g b : Nat) : Prop where
  ne : b ≠ g
  lt : b < w.heap.size
  is : ∃ (n c at_ : Nat) (zs : List Int), Blk w g 69 #[.slice (some ⟨b, 0, none⟩) n c, .int .i64 at_] ∧ n ≤ 20000000000000 ∧ at_ ≤ 4 * n ∧ zs.length = n ∧ ∀ i (h : i < zs.length), w.cell? ⟨b, i, none⟩ = some (.int .i64 zs[i])
theorem IsTape.ltg {w : World} {g b : Nat} (h : IsTape w g b) : g < w.heap.size := by
  obtain ⟨_, _, _, _, hB, _⟩ := h.is
  exact hB.lt
theorem IsTape.below {w w' : World} {g b : Nat} (h : IsTape w g b) (hb : Below w.heap.size w w') : IsTape w' g b := by
  obtain ⟨n, c, a, zs, hB, h1, h2, h3, h4⟩ := h.is
  exact ⟨h.ne, Nat.lt_of_lt_of_le h.lt hb.size, n, c, a, zs, hB.below hb hB.lt, h1, h2, h3, fun i hi => (hb.cell (p := ⟨b, i, none⟩) h.lt).trans (h4 i hi)⟩
theorem IsTape.grown {w w' : World} {g b r : Nat} (h : IsTape w g b) (hb : w.grownBy w' (some r)) (hg : r ≠ g) (hr : r ≠ b) : IsTape w' g b := by
  obtain ⟨n, c, a, zs, hB, h1, h2, h3, h4⟩ := h.is
  exact ⟨h.ne, Nat.lt_of_lt_of_le h.lt hb.size, n, c, a, zs, hB.grown hb (fun e => by injection e with e; exact hg e.symm), h1, h2, h3, fun i hi => (World.cell?_of_block (hb.block b h.lt (fun e => by injection e with e; exact hr e.symm))).trans (h4 i hi)⟩
theorem SliceIs.grown {α : Type} {w w' : World} {enc : α → List Value} {k : Nat} {A : Option Addr} {l : List α} {row : Option Nat} (h : SliceIs w w.heap.size enc k A l) (hg : w.grownBy w' row) (hA : ∀ a, A = some a → some a.block ≠ row) : SliceIs w' w'.heap.size enc k A l := by
  intro hl
  obtain ⟨b, o, rfl, hB, hc⟩ := h hl
  exact ⟨b, o, rfl, Nat.lt_of_lt_of_le hB hg.size, fun i hi j u hu => (World.cell?_of_block (hg.block b hB (hA _ rfl))).trans (hc i hi j u hu)⟩

def intCells (x : Int) : List Value := [.int .i64 x]
theorem int_len : ∀ x : Int, (intCells x).length = 1 := fun _ => rfl
theorem int_one : ∀ x : Int, ∀ u ∈ intCells x, u.oneCell' = true := by
  intro x u hu
  simp only [intCells, List.mem_singleton] at hu
  subst hu
  rfl

theorem infoIntT : (Try.prog.info? 3).map (fun i => (i.zero, i.size, i.bytes)) = some (some (.int .i64 0), 1, 8) := by kernel_rfl
theorem Owns.some_form {α : Type} {w : World} {base : Nat} {e : TypeId} {enc : α → List Value} {k : Nat} {v : Value} {l : List α} (h : Owns w base e enc k v l) {q : Nat} (hv : v.ownBlock = some q) : ∃ g cap, v = .slice (some ⟨g, 0, none⟩) l.length cap ∧ base ≤ g := by
  rcases h.2 with ⟨rfl, _⟩ | ⟨g, cap, cur, rfl, hb, _⟩
  · simp [Value.ownBlock] at hv
  · exact ⟨g, cap, rfl, hb⟩
set_option maxRecDepth 100000 in
set_option maxHeartbeats 1000000 in
theorem tape_New (A : Option Addr) (c : Nat) (l : List Int) (w : World) (hl : SliceIs w w.heap.size intCells 1 A l) (hn : l.length * 8 ≤ 140737488351232) :
    Calls Try.prog 15 #[.slice A l.length c] w fun e w' =>
      (∃ g b, e = .returned (.pointer (some ⟨g, 0, none⟩)) ∧ w.heap.size ≤ g ∧ w.heap.size ≤ b ∧ IsTape w' g b) ∧ Below w.heap.size w w' := by
  obtain ⟨i0, hi0, hz0, hz1, hz2⟩ := info_parts infoIntT
  go_enter Try.func15, Try.ntmps15
  go_wp2_with ((at_builtin; go_must (refine wpList_append_list _ rfl (.tmp 3) (.tmp 4) 35 rfl 3 i0 _ intCells 1 8 Try.underlying35 hi0 hz0 hz1 hz2 rfl (by omega) int_len int_one w.heap.size (.slice (some ⟨w.heap.size, 0, none⟩) 0 0) [] rfl (Owns.empty (Blk.new' rfl) (Nat.le_refl _)) _ _ _ l rfl rfl (hl.next (by repeat (first | with_reducible exact Below.refl _ _ | with_reducible assumption | (with_reducible refine Below.setCell ?_ ?_ _; rotate_left; focus (first | exact Nat.le_refl _ | exact Nat.le_add_right _ _ | (simp; done) | (simp; omega) | omega)) | (with_reducible refine Below.alloc ?_ ?_ _; rotate_left; focus (first | exact Nat.le_refl _ | exact Nat.le_add_right _ _ | (simp; done) | (simp; omega) | omega)) | with_reducible refine Below.drew ?_ | with_reducible refine below_drewN ?_ _ | (with_reducible refine below_nextN ?_ (by with_reducible assumption) ?_; rotate_left; focus (first | exact Nat.le_refl _ | exact Nat.le_add_right _ _ | (simp; done) | (simp; omega) | omega))))) (by simp; omega) (by simp [maxLen]; omega) (by simp) ?_); intro v' w1 hown' hg' hat'; have hbel : Below w.heap.size w w1 := Below.grown (by repeat (first | with_reducible exact Below.refl _ _ | with_reducible assumption | (with_reducible refine Below.setCell ?_ ?_ _; rotate_left; focus (first | exact Nat.le_refl _ | exact Nat.le_add_right _ _ | (simp; done) | (simp; omega) | omega)) | (with_reducible refine Below.alloc ?_ ?_ _; rotate_left; focus (first | exact Nat.le_refl _ | exact Nat.le_add_right _ _ | (simp; done) | (simp; omega) | omega)) | with_reducible refine Below.drew ?_ | with_reducible refine below_drewN ?_ _ | (with_reducible refine below_nextN ?_ (by with_reducible assumption) ?_; rotate_left; focus (first | exact Nat.le_refl _ | exact Nat.le_add_right _ _ | (simp; done) | (simp; omega) | omega)))) hg' (by simp) (own_row (Nat.le_refl _)); rw [List.nil_append] at hown'; obtain ⟨b, cap, rfl, hbb⟩ := hat'.elim (fun h => hown'.some_form h) (fun h => hown'.some_form h); have HOWN' := Lib.hid hown'; clear hown'))
  go_ret
  obtain ⟨A2, c2, e2, _, hs2, hA2⟩ := HOWN'.out.slice int_len
  injection e2 with e2 _ _
  subst e2
  refine ⟨⟨w1.heap.size, b, rfl, hbel.size, hbb, ⟨?_, ?_, l.length, cap, 0, l, Blk.new _ _ _, by omega, by omega, rfl, fun i hi => ?_⟩⟩, hbel.alloc hbel.size _⟩
  · have := (hA2 _ rfl).2; simp at this; omega
  · have := (hA2 _ rfl).2; simp at this ⊢; omega
  · obtain ⟨b', o', e', hb', hc'⟩ := hs2 (by omega)
    injection e' with e'
    injection e' with e1 e2
    subst e1 e2
    have := hc' i hi 0 _ rfl
    have hlt := (hA2 _ rfl).2
    have h2 := (Below.refl w1.heap.size w1).alloc (Nat.le_refl _) (.cells #[.slice (some ⟨b, 0, none⟩) l.length cap, .int .i64 0] 69)
    refine (h2.cell (p := ⟨b, i, none⟩) hlt).trans ?_
    simpa using this

/-- A number from 0 to n - 1, 0 if n is below 2. -/
def NextIs (n : Int) (r : Nat) : Prop := r = 0 ∨ (r : Int) < n
theorem tape_mod (x n : Int) (hn : 2 ≤ n) : ∃ r : Nat, (x.tmod n + n).tmod n = r ∧ (r : Int) < n := by
  have h1 := Int.tmod_lt_of_pos x (show 0 < n by omega)
  have h2 : - n < x.tmod n := by
    have h5 := Int.tmod_lt_of_pos (-x) (show 0 < n by omega)
    rw [Int.neg_tmod] at h5
    omega
  have h3 := Int.tmod_lt_of_pos (x.tmod n + n) (show 0 < n by omega)
  have h4 := Int.tmod_nonneg n (show 0 ≤ x.tmod n + n by omega)
  exact ⟨((x.tmod n + n).tmod n).toNat, by omega, by omega⟩
theorem tape_modW (x n : Int) (hn : 2 ≤ n) (hn2 : n ≤ 1000000) : ∃ r : Nat, (wrap64 (x.tmod n + n)).tmod n = r ∧ (r : Int) < n := by
  have h1 := Int.tmod_lt_of_pos x (show 0 < n by omega)
  have h2 := Int.lt_tmod_of_pos x (show 0 < n by omega)
  rw [show wrap64 (x.tmod n + n) = x.tmod n + n by unfold wrap64; omega]
  exact tape_mod x n hn
theorem tape_set {w : World} {g b n c at_ : Nat} {zs : List Int} (hne : b ≠ g) (hlt : b < w.heap.size) (hB : Blk w g 69 #[.slice (some ⟨b, 0, none⟩) n c, .int .i64 at_]) (hn : n ≤ 20000000000000) (ha : at_ + 1 ≤ 4 * n) (hz : zs.length = n)
    (hc : ∀ i (h : i < zs.length), w.cell? ⟨b, i, none⟩ = some (.int .i64 zs[i])) : IsTape (w.setCell ⟨g, 1, none⟩ (.int .i64 (at_ + 1))) g b := by
  refine ⟨hne, by simpa using hlt, n, c, at_ + 1, zs, ?_, hn, ha, hz, fun i hi => (World.cell?_of_block (Below.heap_setCell w _ _ b (by simpa using hne))).trans (hc i hi)⟩
  have := hB.set_ 1 (.int .i64 (at_ + 1))
  simpa using this
set_option maxRecDepth 100000 in
set_option maxHeartbeats 2000000 in
theorem tape_Next (g b : Nat) (n : Int) (w : World) (hk : IsTape w g b) (hn1 : -1000000 ≤ n) (hn2 : n ≤ 1000000) :
    Calls Try.prog 18 #[.pointer (some ⟨g, 0, none⟩), .int .i64 n] w fun e w' =>
      ∃ r : Nat, e = .returned (.int .i64 r) ∧ NextIs n r ∧ IsTape w' g b ∧ w.grownBy w' (some g) := by
  obtain ⟨hne, hbl, len, c, at_, zs, hB, hlen, hat, hzs, hcell⟩ := hk
  have k0 := hB.cell 0
  have k1 := hB.cell 1
  have kf := hB.frozen 1
  simp only [List.getElem?_toArray, List.getElem?_cons_zero, List.getElem?_cons_succ] at k0 k1
  have hq0 := keepQ (w := w) g hB.lt
  have hq1 := keepQ (w := w) b hbl
  have HB := Lib.hid hB
  have HC := Lib.hid hcell
  have hgl := hB.lt
  have hz : ∀ wq, Below w.heap.size w wq → IsTape wq g b := fun wq hq => IsTape.below ⟨hne, hbl, len, c, at_, zs, HB.out, hlen, hat, hzs, HC.out⟩ hq
  have HZ := Lib.hid hz
  clear hB hcell hz
  by_cases h2 : n < 2
  · go_enter Try.func18, Try.ntmps18
    go_wp2
    refine wp_region_bel (by kernel_rfl) (by kernel_rfl) ?_; (repeat (go_big_quiet_step (fail))); refine wpQuiet_nil ?_; intro wq hq
    go_wp2
    go_ret
    exact ⟨0, rfl, .inl rfl, HZ.out _ hq, only_of_below hq _⟩
  · have h2' : decide (n < 2) = false := by simpa using h2
    by_cases hl0 : len = 0
    · subst hl0
      go_enter Try.func18, Try.ntmps18
      go_wp2
      refine wp_region_bel (by kernel_rfl) (by kernel_rfl) ?_; (repeat (go_big_quiet_step (fail))); refine wpQuiet_nil ?_; intro wq hq
      go_wp2
      go_ret
      exact ⟨0, rfl, .inl rfl, HZ.out _ hq, only_of_below hq _⟩
    · have hl0' : ((len : Int) == 0) = false := by simp; omega
      by_cases ha4 : 4 * len ≤ at_
      · have ha4' : (4 : Int) * (len : Int) ≤ (at_ : Int) := by omega
        go_enter Try.func18, Try.ntmps18
        go_wp2
        refine wp_region_bel (by kernel_rfl) (by kernel_rfl) ?_; (repeat (go_big_quiet_step (fail))); refine wpQuiet_nil ?_; intro wq hq
        go_wp2
        go_ret
        exact ⟨0, rfl, .inl rfl, HZ.out _ hq, only_of_below hq _⟩
      · have ha4' : decide ((4 : Int) * (len : Int) ≤ (at_ : Int)) = false := by simp; omega
        go_enter Try.func18, Try.ntmps18
        go_wp2
        refine wp_region_bel (by kernel_rfl) (by kernel_rfl) ?_; (repeat (go_big_quiet_step (fail))); refine wpQuiet_nil ?_; intro wq hq
        go_wp2
        have hTq := HZ.out _ hq
        clear hq0 hq1 k0 k1 kf
        have hBq : Blk wq g 69 #[.slice (some ⟨b, 0, none⟩) len c, .int .i64 at_] := HB.out.below hq hgl
        have hbq : b < wq.heap.size := hTq.lt
        have k0 := hBq.cell 0
        have k1 := hBq.cell 1
        have kf := hBq.frozen 1
        simp only [List.getElem?_toArray, List.getElem?_cons_zero, List.getElem?_cons_succ] at k0 k1
        have hml : at_ % len < zs.length := by rw [hzs]; exact Nat.mod_lt _ (by omega)
        have kz : wq.cell? ⟨b, at_ % len, none⟩ = some (.int .i64 zs[at_ % len]) := (hq.cell (p := ⟨b, at_ % len, none⟩) hbl).trans (HC.out _ hml)
        have hml2 : at_ % len < len := by omega
        have hq0 := keepQ (w := wq) g hBq.lt
        have hq1 := keepQ (w := wq) b hbq
        have HBq := Lib.hid hBq
        clear hBq
        obtain ⟨z, hz⟩ : ∃ z, zs[at_ % len] = z := ⟨_, rfl⟩
        rw [hz] at kz
        clear hz
        refine wp_region_bel (by kernel_rfl) (by kernel_rfl) ?_; (repeat (go_big_quiet_step (fail))); refine wpQuiet_nil ?_; intro wq2 hq2
        go_wp2
        clear hq0 hq1 k0 k1 kf kz
        have hqq := below_next hq hq2
        have hTq2 := HZ.out _ hqq
        have hBq2 : Blk wq2 g 69 #[.slice (some ⟨b, 0, none⟩) len c, .int .i64 at_] := HB.out.below hqq hgl
        have k0 := hBq2.cell 0
        have k1 := hBq2.cell 1
        simp only [List.getElem?_toArray, List.getElem?_cons_zero, List.getElem?_cons_succ] at k0 k1
        have hq0 := keepQ (w := wq2) g hBq2.lt
        clear hBq2
        refine wp_region_bel (by kernel_rfl) (by kernel_rfl) ?_; (repeat (go_big_quiet_step (fail))); refine wpQuiet_nil ?_; intro wq3 hq3
        have hqr := below_next hqq hq3
        have hTq3 := HZ.out _ hqr
        have hBq3 : Blk wq3 g 69 #[.slice (some ⟨b, 0, none⟩) len c, .int .i64 at_] := HB.out.below hqr hgl
        clear k0 k1 hq0
        have k1 := hBq3.cell 1
        have kf := hBq3.frozen 1
        simp only [List.getElem?_toArray, List.getElem?_cons_zero, List.getElem?_cons_succ] at k1
        have HBQ3 := Lib.hid hBq3
        have HTQ3 := Lib.hid hTq3
        clear hBq3
        go_wp2_with fail
        all_goals go_ret
        all_goals (obtain ⟨r, hr, hrn⟩ := tape_modW _ n (by omega) hn2; refine ⟨r, congrArg (fun x => Ending.returned (.int .i64 x)) hr, .inr hrn, tape_set hne hTq3.lt HBQ3.out hlen (by omega) hzs (fun i hi => (hqr.cell (p := ⟨b, i, none⟩) hbl).trans (HC.out i hi)), only_setCell (only_of_below hqr _) (.inl rfl) _⟩)
end Go.Proofs.Ytoleifehijccmaa
