/-
  Layer 16: (graph).components: a forest that stands for the pairs in force at a position.
-/
import Derived.Test.YtoleifehijccmaaSearch
import Derived.Test.YtoleifehijccmaaRoot
import Derived.Laws.MakeOwn
import Derived.Laws.Entries
import Derived.Laws.OwnMore
namespace Go.Proofs.Ytoleifehijccmaa
set_option linter.unusedVariables false
open Go.RowKit

structure Edge where
  a : Nat
  b : Nat
  first : Int
  last : Int
def Edge.cells (x : Edge) : List Value := [.int .i64 x.a, .int .i64 x.b, .int .i64 x.first, .int .i64 x.last]
theorem Edge.cells4 {w : World} {b o : Nat} {x : Edge} (h : ∀ j u, x.cells[j]? = some u → w.cell? ⟨b, o + j, none⟩ = some u) :
    w.cell? ⟨b, o, none⟩ = some (.int .i64 x.a) ∧ w.cell? ⟨b, o + 1, none⟩ = some (.int .i64 x.b) ∧ w.cell? ⟨b, o + 2, none⟩ = some (.int .i64 x.first) ∧ w.cell? ⟨b, o + 3, none⟩ = some (.int .i64 x.last) :=
  ⟨h 0 _ rfl, h 1 _ rfl, h 2 _ rfl, h 3 _ rfl⟩
/-- The pairs in force at a position. -/
def inForce (es : List Edge) (seq : Int) : List (Nat × Nat) := (es.filter (fun e => decide (e.first ≤ seq) && decide (seq ≤ e.last))).map (fun e => (e.a, e.b))
theorem inForce_snoc (es : List Edge) (e : Edge) (seq : Int) : inForce (es ++ [e]) seq = if e.first ≤ seq ∧ seq ≤ e.last then inForce es seq ++ [(e.a, e.b)] else inForce es seq := by
  unfold inForce
  rw [List.filter_append, List.map_append]
  by_cases h : e.first ≤ seq ∧ seq ≤ e.last
  · rw [if_pos h]; simp [h.1, h.2]
  · rw [if_neg h]
    have : (decide (e.first ≤ seq) && decide (seq ≤ e.last)) = false := by simpa using h
    simp [this]

theorem run_make_rowN {P : Program} (t e : TypeId) (i : TypeInfo) (z : Value) (ht : P.underlying t = some (.slice e)) (hi : P.info? e = some i) (hz : i.zero = some z)
    (kl kc : IntKind) (n c : Nat) (hnc : n ≤ c) (hbytes : i.bytes * c ≤ 281474976710656) (h63 : c ≤ 9223372036854775807) (w : World) :
    (Instr.makeSlice t (.int kl (n : Int)) (.int kc (c : Int))).run P w = .ok (.slice (some ⟨w.heap.size, 0, none⟩) n c) (w.alloc (.cells (madeCells z.cells (c * i.size)) e)) := by
  have hb : (i.bytes : Int) * (c : Int) ≤ 281474976710656 := by
    have h : ((i.bytes * c : Nat) : Int) ≤ 281474976710656 := by omega
    rwa [Int.natCast_mul] at h
  have hr := run_make (P := P) w t e i z ht hi hz kl kc n c (by omega) (by omega) hb (by omega)
  simp only [Int.toNat_natCast] at hr
  exact hr
theorem infoInt : (Try.prog.info? 3).map (fun i => (i.zero, i.size, i.bytes)) = some (some (.int .i64 0), 1, 8) := by kernel_rfl
theorem intBlk_made {w : World} {g n : Nat} (hg : w.heap.size = g) : IntBlk (w.alloc (.cells (madeCells #[.int .i64 0] n) 3)) g (List.range 0 ++ List.replicate (n - 0) 0) := by
  have h := Blk.new' (w := w) (g := g) (t := 3) (cs := madeCells #[.int .i64 0] n) hg
  unfold IntBlk
  have e : madeCells #[Value.int .i64 0] n = (List.map (fun x : Nat => Value.int .i64 (x : Int)) (List.range 0 ++ List.replicate (n - 0) 0)).toArray := by
    apply Array.toList_inj.1
    rw [toList_madeCells_one]
    simp
  rw [← e]
  exact h
theorem range_set {m n : Nat} (h : m < n) : (List.range m ++ List.replicate (n - m) 0).set m m = List.range (m + 1) ++ List.replicate (n - (m + 1)) 0 := by
  have e : n - m = (n - (m + 1)) + 1 := by omega
  rw [e, List.replicate_succ, List.set_append_right _ _ (by simp), List.range_succ, List.append_assoc]
  simp
theorem forest_rootN (g c n : Nat) (f : List Nat) (i : Nat) (w : World) (hB : IntBlk w g f) (hf : Forest f) (hn : f.length = n) (hi : i < n) (hlen : n ≤ 1000000) :
    Calls Try.prog 56 #[.slice (some ⟨g, 0, none⟩) n c, .int .i64 i] w fun e w' =>
      ∃ r f', Root f i r ∧ SameRoots f f' ∧ e = .returned (.int .i64 r) ∧ IntBlk w' g f' ∧ w.grownBy w' (some g) := by
  subst hn
  exact forest_root g c f i w hB hf hi hlen

set_option maxRecDepth 100000 in
set_option maxHeartbeats 1000000 in
theorem graph_components (A : Option Addr) (c n : Nat) (EA : Option Addr) (ec : Nat) (es : List Edge) (seq : Int) (w : World) (hn : n ≤ 1000000) (he : SliceIs w w.heap.size Edge.cells 4 EA es) (hes : es.length ≤ 1000000) (hr : ∀ e ∈ es, e.a < n ∧ e.b < n) :
    Calls Try.prog 55 #[.agg #[.slice A n c, .slice EA es.length ec], .int .i64 seq] w fun e w' =>
      (∃ g f, e = .returned (.slice (some ⟨g, 0, none⟩) n n) ∧ IntBlk w' g f ∧ w.heap.size ≤ g ∧ Stands f n (inForce es seq)) ∧ Below w.heap.size w w' := by
  obtain ⟨i0, hi0, hz0, hz1, hz2⟩ := info_parts infoInt
  have hmk : ∀ u : World, (Instr.makeSlice 77 (.int .i64 (n : Int)) (.int .i64 (n : Int))).run Try.prog u = .ok (.slice (some ⟨u.heap.size, 0, none⟩) n n) (u.alloc (.cells (madeCells #[.int .i64 0] n) 3)) := fun u => by
    have h := run_make_rowN (P := Try.prog) 77 3 i0 (.int .i64 0) Try.underlying77 hi0 hz0 .i64 .i64 n n (Nat.le_refl _) (by rw [hz2]; omega) (by omega) u
    simpa [hz1, Value.cells] using h
  have HR := Lib.hid hr
  clear hr
  go_enter Try.func55, Try.ntmps55
  go_wp2
  go_loopw [15] (fun vi wr => ∃ m : Nat, m ≤ n ∧ vi = .int .i64 m ∧ IntBlk wr (w.heap.size + 1) (List.range m ++ List.replicate (n - m) 0) ∧ Below w.heap.size w wr ∧ Blk wr w.heap.size 62 #[.slice A n c, .slice EA es.length ec]) (fun vi _ => n - (intOf vi).toNat)
  case atStart => exact ⟨0, Nat.zero_le _, rfl, intBlk_made (by simp), by repeat (first | with_reducible exact Below.refl _ _ | with_reducible assumption | (with_reducible refine Below.setCell ?_ ?_ _; rotate_left; focus (first | exact Nat.le_refl _ | exact Nat.le_add_right _ _ | (simp; done) | (simp; omega) | omega)) | (with_reducible refine Below.alloc ?_ ?_ _; rotate_left; focus (first | exact Nat.le_refl _ | exact Nat.le_add_right _ _ | (simp; done) | (simp; omega) | omega)) | with_reducible refine Below.drew ?_ | with_reducible refine below_drewN ?_ _ | (with_reducible refine below_nextN ?_ (by with_reducible assumption) ?_; rotate_left; focus (first | exact Nat.le_refl _ | exact Nat.le_add_right _ _ | (simp; done) | (simp; omega) | omega))), (Blk.new _ _ _).alloc _⟩
  case round =>
    obtain ⟨m, hm, rfl, hB, hbw, hbox⟩ := hrel
    by_cases hlt : m < n
    · obtain ⟨cv, hcv⟩ : ∃ v, wr.cell? ⟨w.heap.size + 1, m, none⟩ = some v := ⟨_, hB.cell (p := 0) (by rw [List.getElem?_append_right (by simp), List.length_range, List.getElem?_replicate, if_pos (by omega)])⟩
      have hfz := Blk.frozen hB m
      have HB := Lib.hid hB
      have HBX := Lib.hid hbox
      clear hB hbox
      go_wp2
      go_roundw
      case rel => exact ⟨m + 1, by omega, by go_num, by
        have h := HB.out.set_ m m
        rw [range_set hlt] at h
        exact h, by repeat (first | with_reducible exact Below.refl _ _ | with_reducible assumption | (with_reducible refine Below.setCell ?_ ?_ _; rotate_left; focus (first | exact Nat.le_refl _ | exact Nat.le_add_right _ _ | (simp; done) | (simp; omega) | omega)) | (with_reducible refine Below.alloc ?_ ?_ _; rotate_left; focus (first | exact Nat.le_refl _ | exact Nat.le_add_right _ _ | (simp; done) | (simp; omega) | omega)) | with_reducible refine Below.drew ?_ | with_reducible refine below_drewN ?_ _ | (with_reducible refine below_nextN ?_ (by with_reducible assumption) ?_; rotate_left; focus (first | exact Nat.le_refl _ | exact Nat.le_add_right _ _ | (simp; done) | (simp; omega) | omega))), HBX.out.far (by simp) _⟩
      case measure => simp [intOf]; omega
    · obtain rfl : m = n := by omega
      have hB' : IntBlk wr (w.heap.size + 1) (List.range m) := by simpa using hB
      have c1 : wr.cell? ⟨w.heap.size, 1, none⟩ = some (.slice EA es.length ec) := hbox.cell 1
      obtain ⟨wo, rfl⟩ : ∃ wo : World, wo = wr := ⟨_, rfl⟩
      have HB := Lib.hid hB'
      have HBX := Lib.hid hbox
      clear hB hbox hB'
      go_wp2
      go_loopw [26] (fun vi wi => ∃ (k : Nat) (f : List Nat), k ≤ es.length ∧ vi = .int .i64 k ∧ IntBlk wi (w.heap.size + 1) f ∧ Stands f m (inForce (es.take k) seq) ∧ Below w.heap.size w wi) (fun vi _ => es.length - (intOf vi).toNat)
      case atStart => exact ⟨0, List.range m, Nat.zero_le _, rfl, HB.out, by simpa [inForce] using Stands.start m, hbw⟩
      case round =>
        obtain ⟨k, f, hk, rfl, hB, hst, hbi⟩ := hrel
        have HST := Lib.hid hst
        have hflen := hst.len
        have HFL := Lib.hid hflen
        clear hst hflen
        by_cases hltk : k < es.length
        · obtain ⟨b, o, rfl, hb, hc⟩ := (he.below hbi).get hltk
          obtain ⟨e0, e1, e2, e3⟩ := Edge.cells4 hc
          have hrr := HR.out es[k] (List.getElem_mem hltk)
          obtain ⟨hra, hrb⟩ := hrr
          clear hc
          have hsnoc := inForce_snoc (es.take k) es[k] seq
          rw [← List.take_succ_eq_append_getElem hltk] at hsnoc
          have HSN := Lib.hid hsnoc
          clear hsnoc
          by_cases hf1 : es[k].first ≤ seq
          · by_cases hf2 : seq ≤ es[k].last
            · go_wp2
              obtain ⟨W, hW⟩ : ∃ W : World, W = wr.alloc (.cells #[.int .i64 es[k].a, .int .i64 es[k].b, .int .i64 es[k].first, .int .i64 es[k].last] 93) := ⟨_, rfl⟩
              have hE : Blk W wr.heap.size 93 #[.int .i64 es[k].a, .int .i64 es[k].b, .int .i64 es[k].first, .int .i64 es[k].last] := by rw [hW]; exact Blk.new _ _ _
              have hBW : IntBlk W (w.heap.size + 1) f := by rw [hW]; exact Blk.alloc hB _
              have hbW : Below w.heap.size w W := by rw [hW]; exact hbi.alloc hbi.size _
              have hgl := hB.lt
              rw [← hW]
              clear hW e0 e1 e2 e3 hB
              have x0 := hE.cell 0
              have x1 := hE.cell 1
              simp only [List.getElem?_toArray, List.getElem?_cons_zero, List.getElem?_cons_succ] at x0 x1
              have HE := Lib.hid hE
              have HBW := Lib.hid hBW
              clear hE hBW
              have hmz := hbW.size
              go_region_with (first
                | (go_at_call 56; (with_reducible refine (forest_rootN (w.heap.size + 1) m m f es[k].a _ ?_ HST.out.forest HFL.out hra hn).mono ?_); (exact HBW.out); rintro e w1 ⟨ra, f1, hRa, hS1, rfl, hB1, hg1⟩; have hE1 : Blk w1 wr.heap.size 93 #[.int .i64 es[k].a, .int .i64 es[k].b, .int .i64 es[k].first, .int .i64 es[k].last] := Blk.grown (by exact HE.out) hg1 (fun e => (by injection e with e; omega)); have y0 := hE1.cell 0; have y1 := hE1.cell 1; simp only [List.getElem?_toArray, List.getElem?_cons_zero, List.getElem?_cons_succ] at y0 y1; have hral : ra < m := (by have h := hRa.lt.2; rw [HFL.out] at h; exact h); have hbel1 : Below w.heap.size w w1 := Below.grown (by first | exact hbW.drew | exact hbW) hg1 (by first | omega | (simp; omega)) (fun q e => (by injection e with e; omega)); have HRA := Lib.hid hRa; have HS1 := Lib.hid hS1; have HB1 := Lib.hid hB1; clear hRa hS1 hB1 hE1)
                | (go_at_call 56; (with_reducible refine (forest_rootN (w.heap.size + 1) m m f1 es[k].b _ ?_ (HS1.out.forest HST.out.forest) (HS1.out.len.trans HFL.out) hrb hn).mono ?_); (exact HB1.out); rintro e w2 ⟨rb, f2, hRb, hS2, rfl, hB2, hg2⟩; have hbel2 : Below w.heap.size w w2 := Below.grown hbel1 hg2 hbel1.size (fun q e => (by injection e with e; omega)); obtain ⟨old, hold⟩ : ∃ p, f2[ra]? = some p := ⟨_, List.getElem?_eq_getElem (by rw [hS2.1, HS1.out.1, HFL.out]; exact hral)⟩; have hcell := hB2.cell hold; have hfz := Blk.frozen hB2 ra; have HRB := Lib.hid hRb; have HS2 := Lib.hid hS2; have HB2 := Lib.hid hB2; clear hRb hS2 hB2 hold))
              all_goals go_wp2
              all_goals go_roundw
              all_goals first
                | (case rel => exact ⟨k + 1, f2.set ra rb, by omega, by go_num, HB2.out.set_ ra rb, by
                    rw [HSN.out, if_pos ⟨hf1, hf2⟩]
                    have hs := (HST.out.same HS1.out).same HS2.out
                    exact hs.join (((HS1.out.trans HS2.out).2 _ _).1 HRA.out) ((HS2.out.2 _ _).1 HRB.out), hbel2.setCell (by simp) _⟩)
                | skip
              all_goals (simp [intOf]; omega)
            · have hd2 : decide (seq ≤ es[k].last) = false := by simpa using hf2
              go_wp2
              go_roundw
              case rel => exact ⟨k + 1, f, by omega, by go_num, Blk.alloc hB _, by rw [HSN.out, if_neg (fun h => hf2 h.2)]; exact HST.out, hbi.alloc hbi.size _⟩
              case measure => simp [intOf]; omega
          · have hd1 : decide (es[k].first ≤ seq) = false := by simpa using hf1
            go_wp2
            go_roundw
            case rel => exact ⟨k + 1, f, by omega, by go_num, Blk.alloc hB _, by rw [HSN.out, if_neg (fun h => hf1 h.1)]; exact HST.out, hbi.alloc hbi.size _⟩
            case measure => simp [intOf]; omega
        · go_wp2
          go_ret
          have e : es.take k = es := List.take_of_length_le (by omega)
          have h := HST.out
          rw [e] at h
          exact ⟨⟨_, f, rfl, hB, by omega, h⟩, hbi⟩
end Go.Proofs.Ytoleifehijccmaa
