/-
  The law HoldMany.
-/
import Derived.Test.YtoleifehijccmaaHAwake
import Derived.Test.YtoleifehijccmaaSpoil
namespace Go.Proofs.Ytoleifehijccmaa
set_option linter.unusedVariables false
open Go.RowKit

theorem Owns.putHold {w : World} {base g n cap i : Nat} {l : List Hold} (h : Owns w base 52 Hold.cells 9 (.slice (some ⟨g, 0, none⟩) n cap) l) (hn : n = l.length) (hi : i < l.length) (x : Hold) :
    Owns (((((((((w.setCell ⟨g, i * 9, none⟩ (.int .i64 x.table)).setCell ⟨g, i * 9 + 1, none⟩ (.int .i64 x.column)).setCell ⟨g, i * 9 + 2, none⟩ (.string x.who.ns)).setCell ⟨g, i * 9 + 3, none⟩ (.int .i64 x.who.val.kind)).setCell ⟨g, i * 9 + 4, none⟩ (.int .i64 x.who.val.num)).setCell ⟨g, i * 9 + 5, none⟩ (.string x.who.val.text)).setCell ⟨g, i * 9 + 6, none⟩ (.int .i64 x.seq)).setCell ⟨g, i * 9 + 7, none⟩ (.int .i64 x.day0)).setCell ⟨g, i * 9 + 8, none⟩ (.int .i64 x.day1)) base 52 Hold.cells 9 (.slice (some ⟨g, 0, none⟩) n cap) (l.set i x) := by
  have h0 := h.store1 hold_len hn hi ⟨x.table, l[i].column, l[i].who, l[i].seq, l[i].day0, l[i].day1⟩ (j := 0) (o := i * 9) (u := .int .i64 x.table) (by omega) rfl rfl
  have h1 := h0.store1 hold_len (by simpa using hn) (i := i) (by simpa using hi) ⟨x.table, x.column, l[i].who, l[i].seq, l[i].day0, l[i].day1⟩ (j := 1) (o := i * 9 + 1) (u := .int .i64 x.column) (by omega) rfl (by simp [Hold.cells])
  have h2 := h1.store1 hold_len (by simpa using hn) (i := i) (by simpa using hi) ⟨x.table, x.column, ⟨x.who.ns, ⟨l[i].who.val.kind, l[i].who.val.num, l[i].who.val.text⟩⟩, l[i].seq, l[i].day0, l[i].day1⟩ (j := 2) (o := i * 9 + 2) (u := .string x.who.ns) (by omega) rfl (by simp [Hold.cells])
  have h3 := h2.store1 hold_len (by simpa using hn) (i := i) (by simpa using hi) ⟨x.table, x.column, ⟨x.who.ns, ⟨x.who.val.kind, l[i].who.val.num, l[i].who.val.text⟩⟩, l[i].seq, l[i].day0, l[i].day1⟩ (j := 3) (o := i * 9 + 3) (u := .int .i64 x.who.val.kind) (by omega) rfl (by simp [Hold.cells])
  have h4 := h3.store1 hold_len (by simpa using hn) (i := i) (by simpa using hi) ⟨x.table, x.column, ⟨x.who.ns, ⟨x.who.val.kind, x.who.val.num, l[i].who.val.text⟩⟩, l[i].seq, l[i].day0, l[i].day1⟩ (j := 4) (o := i * 9 + 4) (u := .int .i64 x.who.val.num) (by omega) rfl (by simp [Hold.cells])
  have h5 := h4.store1 hold_len (by simpa using hn) (i := i) (by simpa using hi) ⟨x.table, x.column, x.who, l[i].seq, l[i].day0, l[i].day1⟩ (j := 5) (o := i * 9 + 5) (u := .string x.who.val.text) (by omega) rfl (by simp [Hold.cells])
  have h6 := h5.store1 hold_len (by simpa using hn) (i := i) (by simpa using hi) ⟨x.table, x.column, x.who, x.seq, l[i].day0, l[i].day1⟩ (j := 6) (o := i * 9 + 6) (u := .int .i64 x.seq) (by omega) rfl (by simp [Hold.cells])
  have h7 := h6.store1 hold_len (by simpa using hn) (i := i) (by simpa using hi) ⟨x.table, x.column, x.who, x.seq, x.day0, l[i].day1⟩ (j := 7) (o := i * 9 + 7) (u := .int .i64 x.day0) (by omega) rfl (by simp [Hold.cells])
  have h8 := h7.store1 hold_len (by simpa using hn) (i := i) (by simpa using hi) x (j := 8) (o := i * 9 + 8) (u := .int .i64 x.day1) (by omega) rfl (by simp [Hold.cells])
  simpa only [List.set_set] using h8
theorem made_flat (x : Hold) (n : Nat) : (madeCells x.cells.toArray (n * 9)).toList = (List.replicate n x).flatMap Hold.cells := by
  apply List.ext_getElem?
  intro i
  rcases Nat.lt_or_ge i (n * 9) with h | h
  · have hq : i / 9 < n := by omega
    have hr : i % 9 < 9 := Nat.mod_lt _ (by omega)
    have hr' : i % 9 < x.cells.length := hr
    have e : i / 9 * 9 + i % 9 = i := by omega
    have h1 := flat_get hold_len (List.replicate n x) (i / 9) (by simpa using hq) (i % 9) x.cells[i % 9] (by simp)
    rw [e] at h1
    rw [h1]
    have hs : x.cells.toArray.size = 9 := rfl
    simp only [madeCells, hs, Array.getElem?_toList, Array.getElem?_map]
    rw [Array.getElem?_eq_getElem (by simpa using h)]
    simp only [Array.getElem_range, Option.map_some]
    rw [getElem!_pos x.cells.toArray (i % 9) (by rw [hs]; exact hr)]
    simp
  · rw [List.getElem?_eq_none (by simp [size_madeCells]; omega), List.getElem?_eq_none (by rw [flat_length hold_len]; simpa using h)]
section
variable {α : Type} {w : World} {base : Nat} {e : TypeId} {enc : α → List Value} {k : Nat} {l : List α} {g n cap : Nat}
theorem Owns.getM (hk : ∀ x, (enc x).length = k) (h : Owns w base e enc k (.slice (some ⟨g, 0, none⟩) n cap) l) (hn : n = l.length) {i : Nat} (hi : i < l.length) {j : Nat} {u : Value} (hu : (enc l[i])[j]? = some u) : w.cell? ⟨g, i * k + j, none⟩ = some u := by
  subst hn
  exact h.getc hk hi hu
theorem Owns.frzM (h : Owns w base e enc k (.slice (some ⟨g, 0, none⟩) n cap) l) (hn : n = l.length) (j : Nat) : w.frozen? ⟨g, j, none⟩ = false := by
  subst hn
  exact h.frz j
theorem Owns.ltM (h : Owns w base e enc k (.slice (some ⟨g, 0, none⟩) n cap) l) (hn : n = l.length) : base ≤ g ∧ g < w.heap.size := by
  subst hn
  exact h.blk_lt
end
def hX : Hold := ⟨-1, -1, noId, 1, 0, 1⟩
def hZ : Hold := ⟨0, 0, noId, 0, 0, 0⟩
def manyTo (n m : Nat) : List Hold := List.replicate m hX ++ List.replicate (n - m) hZ
theorem many_len {n m : Nat} (h : m ≤ n) : (manyTo n m).length = n := by simp [manyTo]; omega
theorem many_set {n m : Nat} (h : m < n) : (manyTo n m).set m hX = manyTo n (m + 1) := by
  unfold manyTo
  obtain ⟨k, rfl⟩ : ∃ k, n = m + (k + 1) := ⟨n - m - 1, by omega⟩
  rw [show m + (k + 1) - m = k + 1 by omega, show m + (k + 1) - (m + 1) = k by omega, List.set_append_right _ _ (by simp)]
  rw [List.replicate_succ' (n := m)]
  simp [List.replicate_succ]
theorem many_all (n : Nat) : manyTo n n = List.replicate n hX := by simp [manyTo]
theorem hX_ok : holdOk hX = true := (holdOk_iff _).2 ⟨by decide, by decide, by decide, by decide, fun _ => rfl, by decide, by decide, .inl rfl, by decide, by decide, by decide⟩
theorem many_valid (n : Nat) : validHolds (List.replicate n hX) = decide (n ≤ 32) := by
  have h : (List.replicate n hX).all holdOk = true := by
    rw [List.all_eq_true]
    intro x hx
    rw [(List.mem_replicate.1 hx).2]
    exact hX_ok
  rw [validHolds, h, List.length_replicate, Bool.and_true]
theorem many_sane (n : Nat) : SaneH (List.replicate n hX) := by
  intro x hx
  rw [(List.mem_replicate.1 hx).2]
  exact Nat.zero_le _
theorem block_full {hs : List Hold} {l : List Link} {t c : Int} {own : List Ident} {day : Int} (h : ∀ x ∈ hs, (activeOn x day && coversB x l t c own) = true) : ∀ m, m ≤ hs.length → (blockTo hs l t c own day m).length = m
  | 0, _ => rfl
  | m + 1, hm => by
    rw [blockTo_step (by omega), if_pos (h _ (List.getElem_mem _)), List.length_append, block_full h m (by omega)]
    rfl
theorem many_block (n : Nat) : (blocking (List.replicate n hX) [] 0 0 [] 0).length = if n ≤ 32 then n else 0 := by
  unfold blocking
  rw [many_valid, no_links, Bool.and_true]
  by_cases h : n ≤ 32
  · rw [if_pos (by simpa using h), if_pos h, block_full (fun x hx => by
      rw [(List.mem_replicate.1 hx).2, all_covers (x := hX) rfl rfl rfl]
      decide) _ (Nat.le_refl _), List.length_replicate]
  · rw [if_neg (by simpa using h), if_neg h]
    rfl
set_option maxRecDepth 100000 in
set_option maxHeartbeats 2000000 in
theorem holdMany_walk (a0 : Int) (h0 : 0 ≤ a0) (h1 : a0 ≤ 255) (w : World) :
    Calls Try.prog 10 #[.int .u8 a0] w fun e w' => e = .returned (.bool true) ∧ Below w.heap.size w w' := by
  obtain ⟨i0, hi0, hz0, hz1, hz2⟩ := info_parts infoHold
  obtain ⟨d, hd, hd2⟩ : ∃ d : Nat, a0 % 2 = d ∧ d < 2 := ⟨(a0 % 2).toNat, by omega, by omega⟩
  have hmk : ∀ u : World, (Instr.makeSlice 50 (.int .i64 (32 + (d : Int))) (.int .i64 (32 + (d : Int)))).run Try.prog u = .ok (.slice (some ⟨u.heap.size, 0, none⟩) (32 + d) (32 + d)) (u.alloc (.cells (madeCells hZ.cells.toArray ((32 + d) * 9)) 52)) := fun u => by
    have h := run_make_rowN (P := Try.prog) 50 52 i0 _ Try.underlying50 hi0 hz0 .i64 .i64 (32 + d) (32 + d) (Nat.le_refl _) (by rw [hz2]; omega) (by omega) u
    rw [hz1] at h
    exact h
  clear hi0 hz0 hz1 hz2
  go_enter Try.func10, Try.ntmps10
  go_upto_region 2 with (fail)
  refine abs_world (P := fun u => Code.wp _ _ _ _ u) (R := fun u => Owns u w.heap.size 52 Hold.cells 9 (.slice (some ⟨w.heap.size, 0, none⟩) (32 + d) (32 + d)) (manyTo (32 + d) 0) ∧ Below w.heap.size w u) ⟨?_, ?_⟩ ?_
  · have h := World.ownsRow_lit w (base := w.heap.size) (e := 52) (size := 9) (madeCells hZ.cells.toArray ((32 + d) * 9)) (32 + d) (Nat.le_refl _) (by simp [maxLen]; omega) (size_madeCells _ _)
    rw [made_flat] at h
    have e : manyTo (32 + d) 0 = List.replicate (32 + d) hZ := by simp [manyTo]
    unfold Owns
    rw [e, List.length_replicate]
    exact h
  · repeat (first | with_reducible exact Below.refl _ _ | with_reducible assumption | (with_reducible refine Below.setCell ?_ ?_ _; rotate_left; focus (first | exact Nat.le_refl _ | exact Nat.le_add_right _ _ | (simp; done) | (simp; omega) | omega)) | (with_reducible refine Below.alloc ?_ ?_ _; rotate_left; focus (first | exact Nat.le_refl _ | exact Nat.le_add_right _ _ | (simp; done) | (simp; omega) | omega)) | with_reducible refine Below.drew ?_ | with_reducible refine below_drewN ?_ _ | (with_reducible refine below_nextN ?_ (by with_reducible assumption) ?_; rotate_left; focus (first | exact Nat.le_refl _ | exact Nat.le_add_right _ _ | (simp; done) | (simp; omega) | omega)))
  clear hmk
  rintro W ⟨hoW, hbW⟩
  have HD := Lib.hid hd
  clear hd
  go_wp2_with fail
  go_loopw [4] (fun vi wr => ∃ m : Nat, m ≤ 32 + d ∧ vi = .int .i64 m ∧ Owns wr w.heap.size 52 Hold.cells 9 (.slice (some ⟨w.heap.size, 0, none⟩) (32 + d) (32 + d)) (manyTo (32 + d) m) ∧ Below w.heap.size w wr) (fun vi _ => 32 + d - (intOf vi).toNat)
  case atStart => exact ⟨0, Nat.zero_le _, rfl, hoW, hbW⟩
  case round =>
    obtain ⟨m, hm, rfl, hown, hbw⟩ := hrel
    have HOWN := Lib.hid hown
    have hml := many_len hm
    clear hown
    by_cases hlt : m < 32 + d
    · have hmi : m < (manyTo (32 + d) m).length := by omega
      obtain ⟨g0, g1, ⟨g2, g3, g4, g5⟩, g6, g7, g8⟩ := Hold.cells9 (b := w.heap.size) (o := m * 9) (x := (manyTo (32 + d) m)[m]) (fun j u hu => HOWN.out.getM hold_len hml.symm hmi hu)
      have hfz : ∀ j, wr.frozen? ⟨w.heap.size, j, none⟩ = false := fun j => HOWN.out.frzM hml.symm j
      have hgl := (HOWN.out.ltM hml.symm).2
      go_wp2_with fail
      go_roundw
      case rel =>
        refine ⟨m + 1, by omega, by go_num, ?_, ?_⟩
        · have h := HOWN.out.putHold hml.symm (i := m) hmi hX
          rw [many_set hlt] at h
          simp only [hX, noId] at h
          with_reducible exact h
        · repeat (first | with_reducible exact Below.refl _ _ | with_reducible assumption | (with_reducible refine Below.setCell ?_ ?_ _; rotate_left; focus (first | exact Nat.le_refl _ | exact Nat.le_add_right _ _ | (simp; done) | (simp; omega) | omega)) | (with_reducible refine Below.alloc ?_ ?_ _; rotate_left; focus (first | exact Nat.le_refl _ | exact Nat.le_add_right _ _ | (simp; done) | (simp; omega) | omega)) | with_reducible refine Below.drew ?_ | with_reducible refine below_drewN ?_ _ | (with_reducible refine below_nextN ?_ (by with_reducible assumption) ?_; rotate_left; focus (first | exact Nat.le_refl _ | exact Nat.le_add_right _ _ | (simp; done) | (simp; omega) | omega)))
      case measure => simp [intOf]; omega
    · have hlt' : decide (m < 32 + d) = false := by simpa using hlt
      obtain rfl : m = 32 + d := by omega
      rw [many_all] at HOWN
      rcases (show d = 0 ∨ d = 1 by omega) with rfl | rfl
      · have hd : a0 % 2 = 0 := by have := HD.out; omega
        obtain ⟨A5, c5, hv5, hc5, hs5, _⟩ := HOWN.out.slice hold_len
        injection hv5 with h51 h52 h53
        subst h51
        have HS5 : Hid (SliceIs wr wr.heap.size Hold.cells 9 (some ⟨w.heap.size, 0, none⟩) (List.replicate 32 hX)) := hs5
        clear hs5 hc5 h52 h53 hm hlt hml HOWN hlt'
        go_wp2_with fail
        refine (hold_ValidB (some ⟨w.heap.size, 0, none⟩) 32 32 (List.replicate 32 hX) _ HS5.out (by simp) (by omega) (many_sane _) (r := true) (by rw [many_valid]; decide)).mono ?_
        rintro e w1 ⟨rfl, hb1⟩
        go_wp2_with fail
        refine (hold_Blocking (some ⟨w.heap.size, 0, none⟩) 32 32 (List.replicate 32 hX) none 0 0 [] 0 0 0 0 0 none 0 0 [] false false 0 _ (HS5.out.next hb1) (by simp) (by omega) (many_sane _) SliceIs.nil rfl (by omega) (fun x hx => by cases hx) SliceIs.nil rfl (by omega)).mono ?_
        rintro e w2 ⟨⟨v2, rfl, hown2⟩, hb2⟩
        have hlen := many_block 32
        obtain ⟨A6, c6, rfl, hc6, hs6, _⟩ := hown2.slice int_len
        rw [hlen]
        clear hs6 hown2 hc6 hlen
        go_wp2_with fail
        refine (hawake_any _).mono ?_
        rintro e w3 ⟨rfl, hb3⟩
        go_wp2_with fail
        go_ret
        exact ⟨rfl, below_next hbw (below_next (below_next hb1 hb2) hb3)⟩
      · have hd : a0 % 2 = 1 := by have := HD.out; omega
        obtain ⟨A5, c5, hv5, hc5, hs5, _⟩ := HOWN.out.slice hold_len
        injection hv5 with h51 h52 h53
        subst h51
        have HS5 : Hid (SliceIs wr wr.heap.size Hold.cells 9 (some ⟨w.heap.size, 0, none⟩) (List.replicate 33 hX)) := hs5
        clear hs5 hc5 h52 h53 hm hlt hml HOWN hlt'
        go_wp2_with fail
        refine (hold_ValidB (some ⟨w.heap.size, 0, none⟩) 33 33 (List.replicate 33 hX) _ HS5.out (by simp) (by omega) (many_sane _) (r := false) (by rw [many_valid]; decide)).mono ?_
        rintro e w1 ⟨rfl, hb1⟩
        go_wp2_with fail
        refine (hold_Blocking (some ⟨w.heap.size, 0, none⟩) 33 33 (List.replicate 33 hX) none 0 0 [] 0 0 0 0 0 none 0 0 [] false false 0 _ (HS5.out.next hb1) (by simp) (by omega) (many_sane _) SliceIs.nil rfl (by omega) (fun x hx => by cases hx) SliceIs.nil rfl (by omega)).mono ?_
        rintro e w2 ⟨⟨v2, rfl, hown2⟩, hb2⟩
        have hlen := many_block 33
        obtain ⟨A6, c6, rfl, hc6, hs6, _⟩ := hown2.slice int_len
        rw [hlen]
        clear hs6 hown2 hc6 hlen
        go_wp2_with fail
        refine (hawake_any _).mono ?_
        rintro e w3 ⟨rfl, hb3⟩
        go_wp2_with fail
        go_ret
        exact ⟨rfl, below_next hbw (below_next (below_next hb1 hb2) hb3)⟩
end Go.Proofs.Ytoleifehijccmaa
