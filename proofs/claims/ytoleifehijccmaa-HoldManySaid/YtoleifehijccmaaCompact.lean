/-
  newGraph's equality and slices.CompactFunc over identifiers.
-/
import Derived.Test.YtoleifehijccmaaDedup
import Derived.Test.YtoleifehijccmaaRow
namespace Go.Proofs.Ytoleifehijccmaa
set_option linter.unusedVariables false
open Go.RowKit

set_option maxHeartbeats 1000000 in
theorem newGraph_eq (x y : Ident) (w : World) :
    Calls Try.prog 69 #[.agg #[.string x.ns, .int .i64 x.val.kind, .int .i64 x.val.num, .string x.val.text], .agg #[.string y.ns, .int .i64 y.val.kind, .int .i64 y.val.num, .string y.val.text]] w fun e w' =>
      e = .returned (.bool (decide (cmpId x y = 0))) ∧ Ext w w' := by
  go_enter Try.func69, Try.ntmps69
  go_wp2_with ((go_at_call 27; (with_reducible refine (identity_CompareId x y _).mono ?_); rintro e w1 ⟨rfl, hb1⟩))
  go_ret
  exact ⟨rfl, by repeat (first | with_reducible exact Ext.refl _ | with_reducible assumption | (with_reducible refine Ext.setCell ?_ ?_ _; rotate_left; focus (first | exact Nat.le_refl _ | exact Nat.le_add_right _ _ | (simp; done) | (simp; omega) | omega)) | with_reducible refine Ext.alloc ?_ _ | with_reducible refine Ext.drew ?_ | with_reducible refine Ext.drewN ?_ _ | (with_reducible refine Ext.trans ?_ (by with_reducible assumption)))⟩

theorem newGraph_eqB (x y : Ident) {b : Bool} (h : decide (cmpId x y = 0) = b) (w : World) :
    Calls Try.prog 69 #[.agg #[.string x.ns, .int .i64 x.val.kind, .int .i64 x.val.num, .string x.val.text], .agg #[.string y.ns, .int .i64 y.val.kind, .int .i64 y.val.num, .string y.val.text]] w fun e w' =>
      e = .returned (.bool b) ∧ Ext w w' := by
  subst h
  exact newGraph_eq x y w
theorem mem_zeroCells {z : Array Value} {n : Nat} {u : Value} (hz : 0 < z.size) (h : u ∈ (Builtin.zeroCells z n).toList) : u ∈ z.toList := by
  unfold Builtin.zeroCells at h
  rw [Array.toList_map, List.mem_map] at h
  obtain ⟨i, _, rfl⟩ := h
  have hi : i % z.size < z.size := Nat.mod_lt _ hz
  rw [getElem!_pos z _ hi]
  exact Array.getElem_mem_toList hi
theorem clear_ids (g k n c : Nat) (cur : List Ident) (base cap : Nat) (w : World) (h : Owns w base 27 Ident.cells 4 (.slice (some ⟨g, 0, none⟩) cur.length cap) cur) (hn : k + n = cur.length) (h0 : 0 < n) :
    ∃ vs, (Builtin.clear_ #[31] 0 #[.slice (some ⟨g, k * 4, none⟩) n c]).run Try.prog w = .ok (.tuple #[]) (w.setCells g (k * 4) vs) := by
  obtain ⟨i0, hi0, hz0, hz1, hz2⟩ := info_parts infoIdent
  refine ⟨_, run_clear_cells w 31 27 0 (.agg #[.string ⟨#[]⟩, .int .i64 0, .int .i64 0, .string ⟨#[]⟩]) Try.underlying31 (fun w => by simp [zeroValue, Try.t27]) (fun u hu => ?_) g (k * 4) c h0 (fun j hj => ?_) (fun j hj => h.frz _)⟩
  · have hu := mem_zeroCells (by simp [Value.cells]) hu
    simp [Value.cells] at hu
    rcases hu with rfl | rfl | rfl | rfl <;> rfl
  · rw [Array.length_toList, size_zeroCells] at hj
    have hj : j < n * 4 := by simpa [Value.cells] using hj
    have hlt : k * 4 + j < cur.length * 4 := by omega
    rw [World.ownsRow.cellAt h _ hlt]
    have hfl := flat_length ident_len cur
    rw [List.getElem?_eq_getElem (by omega)]
    rfl

set_option maxRecDepth 100000 in
set_option maxHeartbeats 1000000 in
theorem compact_any (base g c : Nat) (l : List Ident) (w : World) (h : Owns w base 27 Ident.cells 4 (.slice (some ⟨g, 0, none⟩) l.length c) l) (hn : l.length ≤ 1000000) :
    Calls Try.prog 68 #[.slice (some ⟨g, 0, none⟩) l.length c, .func (.func 69) #[] #[]] w fun e w' =>
      (∃ v, e = .returned v ∧ Owns w' base 27 Ident.cells 4 v (dedup l)) ∧ w.grownBy w' (some g) := by
  have HO := Lib.hid h
  have hgb := h.blk_lt
  have hcl := h.cap_le
  clear h
  go_enter Try.func68, Try.ntmps68
  by_cases h2 : l.length < 2
  · go_wp2
    go_ret
    refine ⟨⟨_, rfl, ?_⟩, World.grownBy.refl _ _⟩
    rw [dedup_short h2]
    exact HO.out
  · have hd2 : decide ((l.length : Int) < 2) = false := by simp; omega
    go_wp2
    go_loopw [5] (fun vk wr => ∃ k : Nat, 1 ≤ k ∧ k ≤ l.length ∧ vk = .int .i64 k ∧ (∀ j (h : j < l.length), 0 < j → j < k → ¬ cmpId l[j] l[j - 1] = 0) ∧ Below w.heap.size w wr) (fun vk _ => l.length - (intOf vk).toNat)
    case atStart => exact ⟨1, Nat.le_refl _, by omega, rfl, fun j _ h0 h1 => by omega, by repeat (first | with_reducible exact Below.refl _ _ | with_reducible assumption | (with_reducible refine Below.setCell ?_ ?_ _; rotate_left; focus (first | exact Nat.le_refl _ | exact Nat.le_add_right _ _ | (simp; done) | (simp; omega) | omega)) | (with_reducible refine Below.alloc ?_ ?_ _; rotate_left; focus (first | exact Nat.le_refl _ | exact Nat.le_add_right _ _ | (simp; done) | (simp; omega) | omega)) | with_reducible refine Below.drew ?_ | with_reducible refine below_drewN ?_ _ | (with_reducible refine below_nextN ?_ (by with_reducible assumption) ?_; rotate_left; focus (first | exact Nat.le_refl _ | exact Nat.le_add_right _ _ | (simp; done) | (simp; omega) | omega)))⟩
    case round =>
      obtain ⟨k, hk1, hk, rfl, hno, hbw⟩ := hrel
      have HNO := Lib.hid hno
      clear hno
      have hO := HO.out.below hbw (Nat.le_refl _)
      have HOW := Lib.hid hO
      by_cases hlt : k < l.length
      · obtain ⟨q, rfl⟩ : ∃ q, k = q + 1 := ⟨k - 1, by omega⟩
        obtain ⟨h0, h1, h2', h3⟩ := Ident.cells4 (fun j u hu => hO.getc ident_len hlt hu)
        obtain ⟨g0, g1, g2, g3⟩ := Ident.cells4 (fun j u hu => hO.getc ident_len (show q < l.length by omega) hu)
        have hk0 := keepQ (w := wr) g (by have := hbw.size; omega)
        clear hO
        go_wp2
        refine wp_region_bel (by kernel_rfl) (by kernel_rfl) ?_; (repeat (go_big_quiet_step ((go_at_call 69; with_reducible exact bel_of_ext (newGraph_eq l[q + 1] l[q] _))))); refine wpQuiet_nil ?_; intro wq hq
        have hq' := below_nextN hbw hq hbw.size
        by_cases hcmp : cmpId l[q + 1] l[q] = 0
        · go_wp2
          have hdd : ddTo l (q + 1 + 1) = l.take (q + 1) := by
            rw [ddTo_same hlt (by omega) (by simpa using hcmp)]
            exact ddTo_take (by omega) HNO.out
          have HDD := Lib.hid hdd
          have hOq := HOW.out.below hq (Nat.le_refl _)
          have HOQ := Lib.hid hOq
          clear hdd h0 h1 h2' h3 g0 g1 g2 g3 hk0 HOW hOq
          go_loopw [5, 7] (fun vk vm wi => ∃ (k p : Nat) (cur : List Ident), vk = .int .i64 k ∧ vm = .int .i64 (p + 1 : Nat) ∧ q + 1 + (p + 1) ≤ l.length ∧ k ≤ q + 1 + p ∧ cur.length = l.length ∧ Owns wi base 27 Ident.cells 4 (.slice (some ⟨g, 0, none⟩) l.length c) cur ∧ cur.take k = ddTo l (q + 1 + (p + 1)) ∧ (∀ j (h : j < l.length) (h' : j < cur.length), q + 1 + p ≤ j → cur[j] = l[j]) ∧ w.grownBy wi (some g)) (fun _ vm _ => l.length - (intOf vm).toNat)
          case atStart => exact ⟨q + 1, 0, l, rfl, rfl, by omega, by omega, rfl, HOQ.out, HDD.out.symm, fun _ _ _ _ => rfl, only_of_below hq' _⟩
          case round =>
            obtain ⟨k, p, cur, rfl, rfl, hp, hkp, hcur, hO, htk, hsame, hgr⟩ := hrel
            have HO' := Lib.hid hO
            have HTK := Lib.hid htk
            have HSA := Lib.hid hsame
            have hgz := hgr.size
            clear htk hsame
            by_cases hltp : q + 1 + (p + 1) < l.length
            · have hOc : Owns wr base 27 Ident.cells 4 (.slice (some ⟨g, 0, none⟩) cur.length c) cur := by rw [hcur]; exact hO
              obtain ⟨h0, h1, h2', h3⟩ := Ident.cells4 (b := g) (o := (q + 1) * 4 + (p + 1) * 4) (x := l[q + 1 + (p + 1)]) (fun j u hu => by
                have h := hOc.getc ident_len (i := q + 1 + (p + 1)) (by omega) (j := j) (u := u) (by rw [HSA.out _ hltp _ (by omega)]; exact hu)
                rw [Nat.add_mul (q + 1) (p + 1) 4] at h
                exact h)
              obtain ⟨g0, g1, g2, g3⟩ := Ident.cells4 (b := g) (o := (q + 1) * 4 + p * 4) (x := l[q + 1 + p]) (fun j u hu => by
                have h := hOc.getc ident_len (i := q + 1 + p) (by omega) (j := j) (u := u) (by rw [HSA.out _ (by omega) _ (by omega)]; exact hu)
                rw [Nat.add_mul (q + 1) p 4] at h
                exact h)
              have hk0 := keepQ (w := wr) g (by omega)
              have HOC := Lib.hid hOc
              have hd4 : (((p + 1 : Nat) : Int) < ((l.length - (q + 1) : Nat) : Int)) := by omega
              clear hO hOc
              cases hbb : decide (cmpId l[q + 1 + (p + 1)] l[q + 1 + p] = 0) with
              | true =>
                have hcm2 : cmpId l[q + 1 + (p + 1)] l[q + 1 + p] = 0 := by simpa using hbb
                go_wp2
                refine wp_region_bel (by kernel_rfl) (by kernel_rfl) ?_; (repeat (go_big_quiet_step ((go_at_call 69; with_reducible exact bel_of_ext (newGraph_eqB l[q + 1 + (p + 1)] l[q + 1 + p] hbb _))))); refine wpQuiet_nil ?_; intro wq2 hq2
                have hg2 : w.grownBy wq2 (some g) := grown_trans hgr (only_of_below hq2 _)
                have HO2 := Lib.hid (HOC.out.below hq2 (Nat.le_refl _))
                go_wp2
                go_roundw
                case rel => exact ⟨k, p + 1, cur, rfl, by go_num, by omega, by omega, hcur, by rw [← hcur]; exact HO2.out, by
                  rw [HTK.out]
                  exact (ddTo_same hltp (by omega) (by simpa using hcm2)).symm, fun j h h' hj => HSA.out j h h' (by omega), hg2⟩
                case measure => simp [intOf]; omega
              | false =>
                have hcm2 : ¬ cmpId l[q + 1 + (p + 1)] l[q + 1 + p] = 0 := by simpa using hbb
                go_wp2
                refine wp_region_bel (by kernel_rfl) (by kernel_rfl) ?_; (repeat (go_big_quiet_step ((go_at_call 69; with_reducible exact bel_of_ext (newGraph_eqB l[q + 1 + (p + 1)] l[q + 1 + p] hbb _))))); refine wpQuiet_nil ?_; intro wq2 hq2
                have hg2 : w.grownBy wq2 (some g) := grown_trans hgr (only_of_below hq2 _)
                have hO2 := HOC.out.below hq2 (Nat.le_refl _)
                clear h0 h1 h2' h3 g0 g1 g2 g3 hk0
                obtain ⟨h0, h1, h2', h3⟩ := Ident.cells4 (b := g) (o := (q + 1) * 4 + (p + 1) * 4) (x := l[q + 1 + (p + 1)]) (fun j u hu => by
                  have h := hO2.getc ident_len (i := q + 1 + (p + 1)) (by omega) (j := j) (u := u) (by rw [HSA.out _ hltp _ (by omega)]; exact hu)
                  rw [Nat.add_mul (q + 1) (p + 1) 4] at h
                  exact h)
                have hkl : k < cur.length := by omega
                obtain ⟨g0, g1, g2, g3⟩ := Ident.cells4 (b := g) (o := k * 4) (fun j u hu => hO2.getc ident_len (i := k) hkl hu)
                have hfz := fun j => hO2.frz j
                have HO2 := Lib.hid hO2
                clear hO2
                go_wp2
                obtain ⟨hs1, hs2⟩ := HO2.out.store4 ident_len hkl (x := l[q + 1 + (p + 1)]) rfl
                go_roundw
                case rel => exact ⟨k + 1, p + 1, cur.set k l[q + 1 + (p + 1)], by go_num, by go_num, by omega, by omega, by rw [List.length_set]; exact hcur, by rw [← hcur]; exact hs1, by
                  rw [List.take_succ_eq_append_getElem (by simpa using hkl), List.getElem_set_self, List.take_set_of_le (Nat.le_refl _), HTK.out]
                  exact (ddTo_more hltp (by omega) (by simpa using hcm2)).symm, fun j h h' hj => by
                  rw [List.getElem_set_ne (by omega)]
                  exact HSA.out j h (by simpa using h') (by omega), grown_trans hg2 hs2⟩
                case measure => simp [intOf]; omega
            · have hd4 : decide (((p + 1 : Nat) : Int) < ((l.length - (q + 1) : Nat) : Int)) = false := by simp; omega
              have hOc : Owns wr base 27 Ident.cells 4 (.slice (some ⟨g, 0, none⟩) cur.length c) cur := by rw [hcur]; exact hO
              obtain ⟨vs, hclr⟩ := clear_ids g k (l.length - k) (c - k) cur base c wr hOc (by omega) (by omega)
              have HOC := Lib.hid hOc
              clear hO hOc
              go_wp2
              go_ret
              have htake : (cur.take k).length = k := by simp; omega
              have hcut := HOC.out.cut ident_len (m := k) (by omega)
              have hcut' : Owns wr base 27 Ident.cells 4 (.slice (some ⟨g, 0, none⟩) (cur.take k).length c) (cur.take k) := by rw [htake]; exact hcut
              obtain ⟨hb1, hb2⟩ := hcut'.beyonds vs (o := k * 4) (by rw [htake]; exact Nat.le_refl _)
              refine ⟨⟨_, rfl, ?_⟩, grown_trans hgr hb2⟩
              rw [htake, HTK.out] at hb1
              have e : q + 1 + (p + 1) = l.length := by omega
              rw [e] at hb1
              exact hb1
        · have hcd : decide (cmpId l[q + 1] l[q] = 0) = false := by simpa using hcmp
          go_wp2
          go_roundw
          case rel => exact ⟨q + 1 + 1, by omega, by omega, by go_num, fun j h h0 hj => by
            rcases Nat.lt_or_ge j (q + 1) with hjq | hjq
            · exact HNO.out j h h0 hjq
            · obtain rfl : j = q + 1 := by omega
              exact hcmp, hq'⟩
          case measure => simp [intOf]; omega
      · obtain rfl : k = l.length := by omega
        go_wp2
        go_ret
        refine ⟨⟨_, rfl, ?_⟩, only_of_below hbw _⟩
        have e : dedup l = l := by
          have h := ddTo_take (l := l) (Nat.le_refl _) HNO.out
          rwa [List.take_length] at h
        rw [e]
        exact HOW.out
end Go.Proofs.Ytoleifehijccmaa
