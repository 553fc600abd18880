/-
  Layer 16, the reference: Insert into an ascending list.
-/
import Derived.Test.YtoleifehijccmaaList
import Derived.Test.YtoleifehijccmaaOwn
namespace Go.Proofs.Ytoleifehijccmaa
set_option linter.unusedVariables false
open Go.RowKit

def insK (l : List Ident) (x : Ident) : Nat := (l.takeWhile (fun y => decide (cmpId y x < 0))).length
/-- The list with x in its place. -/
def insertId (l : List Ident) (x : Ident) : List Ident := if l[insK l x]? = some x then l else l.take (insK l x) ++ (x :: l.drop (insK l x))

theorem takeWhile_len {α : Type} (p : α → Bool) : ∀ (l : List α) (m : Nat), m ≤ l.length → (∀ j (h : j < l.length), j < m → p l[j] = true) → (∀ h : m < l.length, p l[m] = false) → (l.takeWhile p).length = m
  | [], m, hm, _, _ => by simp at hm; simp [hm]
  | x :: l, 0, _, _, h2 => by
    have := h2 (by simp)
    rw [List.takeWhile_cons_of_neg (by simpa using this)]; rfl
  | x :: l, m + 1, hm, h1, h2 => by
    have := h1 0 (by simp) (by omega)
    rw [List.takeWhile_cons_of_pos (by simpa using this), List.length_cons, takeWhile_len p l m (by simpa using hm) (fun j h hj => h1 (j + 1) (by simpa using h) (by omega)) (fun h => h2 (by simpa using h))]

theorem ident_len : ∀ x : Ident, (Ident.cells x).length = 4 := fun _ => rfl
theorem ident_one : ∀ x : Ident, ∀ u ∈ Ident.cells x, u.oneCell' = true := by
  intro x u hu
  simp [Ident.cells] at hu
  rcases hu with rfl | rfl | rfl | rfl <;> rfl
theorem infoIdent : (Try.prog.info? 27).map (fun i => (i.zero, i.size, i.bytes)) = some (some (.agg #[.string ⟨#[]⟩, .int .i64 0, .int .i64 0, .string ⟨#[]⟩]), 4, 48) := by kernel_rfl

set_option maxRecDepth 100000 in
set_option maxHeartbeats 1000000 in
theorem ref16_Insert (A : Option Addr) (c : Nat) (l : List Ident) (s : ByteArray) (k n : Int) (t : ByteArray) (w : World) (hl : SliceIs w w.heap.size Ident.cells 4 A l) (hn : l.length ≤ 1000000) (hcap : l.length ≤ c) :
    Calls Try.prog 73 #[.slice A l.length c, .agg #[.string s, .int .i64 k, .int .i64 n, .string t]] w fun e w' =>
      (∃ A' c', e = .returned (.slice A' (insertId l ⟨s, k, n, t⟩).length c') ∧ (insertId l ⟨s, k, n, t⟩).length ≤ c' ∧ SliceIs w' w'.heap.size Ident.cells 4 A' (insertId l ⟨s, k, n, t⟩)) ∧ Below w.heap.size w w' := by
  have hg : Try.prog.eqGuardType Try.prog.depth 27 = false := by kernel_rfl
  obtain ⟨i0, hi0, hz0, hz1, hz2⟩ := info_parts infoIdent
  go_enter Try.func73, Try.ntmps73
  go_wp2
  go_loopw [5] (fun i wr => ∃ m : Nat, m ≤ l.length ∧ i = .int .i64 m ∧ Below w.heap.size w wr ∧ (∀ j u, (Ident.cells ⟨s, k, n, t⟩)[j]? = some u → wr.cell? ⟨w.heap.size, 0 + j, none⟩ = some u) ∧ w.heap.size < wr.heap.size ∧ (∀ j (h : j < l.length), j < m → decide (cmpId l[j] ⟨s, k, n, t⟩ < 0) = true)) (fun i _ => l.length - (intOf i).toNat)
  case atStart => exact ⟨0, Nat.zero_le _, rfl, by repeat (first | with_reducible exact Below.refl _ _ | with_reducible assumption | (with_reducible refine Below.setCell ?_ ?_ _; rotate_left; focus (first | exact Nat.le_refl _ | exact Nat.le_add_right _ _ | (simp; done) | (simp; omega) | omega)) | (with_reducible refine Below.alloc ?_ ?_ _; rotate_left; focus (first | exact Nat.le_refl _ | exact Nat.le_add_right _ _ | (simp; done) | (simp; omega) | omega)) | with_reducible refine Below.drew ?_ | with_reducible refine below_drewN ?_ _ | (with_reducible refine below_nextN ?_ (by with_reducible assumption) ?_; rotate_left; focus (first | exact Nat.le_refl _ | exact Nat.le_add_right _ _ | (simp; done) | (simp; omega) | omega))), fun j u hu => by simpa [Ident.cells] using hu, by simp, fun j _ h => absurd h (by omega)⟩
  case round =>
    obtain ⟨m, hm, rfl, hbw, hx, hz, hlo⟩ := hrel
    obtain ⟨x0, x1, x2, x3⟩ := Ident.cells4 hx
    simp only [Nat.zero_add] at x1 x2 x3
    have HX := Lib.hid hx
    have HLO := Lib.hid hlo
    clear hx hlo
    by_cases hlt : m < l.length
    · obtain ⟨b, o, rfl, hb, hc⟩ := (hl.below hbw).get hlt
      obtain ⟨h0, h1, h2, h3⟩ := Ident.cells4 hc
      have hk0 := keepQ (w := wr) b (by have := hbw.size; omega)
      have hk1 := keepQ (w := wr) w.heap.size hz
      clear hc
      go_wp2
      refine wp_region_bel (by kernel_rfl) (by kernel_rfl) ?_; (repeat (go_big_quiet_step ((go_at_call 28; exact bel_of_ext (ref16_Compare _ _ _ _ _ _ _ _ _))))); refine wpQuiet_nil ?_; intro wq hq
      have hq' := below_nextN hbw hq hbw.size
      have hz' : w.heap.size < wq.heap.size := by have := hq.size; omega
      have hkb : ∀ o, wq.cell? ⟨b, o, none⟩ = wr.cell? ⟨b, o, none⟩ := fun o => hq.cell (p := ⟨b, o, none⟩) (by have := hbw.size; show b < _; omega)
      have hkx : ∀ o, wq.cell? ⟨w.heap.size, o, none⟩ = wr.cell? ⟨w.heap.size, o, none⟩ := fun o => hq.cell (p := ⟨w.heap.size, o, none⟩) hz
      rw [← hkb] at h0 h1 h2 h3
      rw [← hkx] at x0 x1 x2 x3
      clear hkb hkx hk0 hk1
      go_wp2
      · have hlo' : cmpId l[m] ⟨s, k, n, t⟩ < 0 := by assumption
        go_roundw
        case rel => exact ⟨m + 1, by omega, by go_num, hq', fun j u hu => (hq.cell (by exact hz)).trans (HX.out j u hu), hz', fun j h hj => by
            rcases Nat.lt_or_ge j m with hk | hk
            · exact HLO.out j h hk
            · obtain rfl : j = m := by omega
              simpa using hlo'⟩
        case measure => simp [intOf]; omega
      · have hge : 0 ≤ cmpId l[m] ⟨s, k, n, t⟩ := by assumption
        have hK : insK l ⟨s, k, n, t⟩ = m := takeWhile_len _ l m (by omega) HLO.out (fun _ => by simpa using hge)
        have HK := Lib.hid hK
        have HGE := Lib.hid hge
        clear hK hge
        have hk0 := keepQ (w := wq) b (by omega)
        have hk1 := keepQ (w := wq) w.heap.size hz'
        by_cases hxe : l[m] = ⟨s, k, n, t⟩
        · have heq := eqlId_of (decide_eq_true hxe)
          have HXE := Lib.hid hxe
          clear hxe
          refine wp_region_bel (by kernel_rfl) (by kernel_rfl) ?_; (repeat (go_big_quiet_step (fail))); refine wpQuiet_nil ?_; intro wq2 hq2
          go_wp2
          go_ret
          have e : insertId l ⟨s, k, n, t⟩ = l := by rw [insertId, if_pos (by rw [HK.out, List.getElem?_eq_getElem hlt, HXE.out])]
          have hbel := below_nextN hq' hq2 hq'.size
          rw [e]
          exact ⟨⟨_, c, rfl, hcap, hl.next hbel⟩, hbel⟩
        · have heq := eqlId_of (decide_eq_false hxe)
          have HXE := Lib.hid hxe
          clear hxe
          refine wp_region_bel (by kernel_rfl) (by kernel_rfl) ?_; (repeat (go_big_quiet_step (fail))); refine wpQuiet_nil ?_; intro wq2 hq2
          have e : insertId l ⟨s, k, n, t⟩ = l.take m ++ (⟨s, k, n, t⟩ :: l.drop m) := by rw [insertId, if_neg (by rw [HK.out, List.getElem?_eq_getElem hlt]; simpa using HXE.out), HK.out]
          have hbel := below_nextN hq' hq2 hq'.size
          have HE := Lib.hid e
          clear e heq hk0 hk1 h0 h1 h2 h3
          go_wp2
          have hmc : m ≤ c := by omega
          have hcm : ¬ c = m := by omega
          have hl2 := hl.next hbel
          have hx2 : ∀ o, wq2.cell? ⟨w.heap.size, o, none⟩ = wq.cell? ⟨w.heap.size, o, none⟩ := fun o => hq2.cell (p := ⟨w.heap.size, o, none⟩) hz'
          rw [← hx2] at x0 x1 x2 x3
          clear hx2
          have hcut : SliceIs wq2 wq2.heap.size Ident.cells 4 (some ⟨b, o + m * 4, none⟩) (l.drop m) := by have h := hl2.cut (c := c) m hcap; rwa [if_neg hcm] at h
          have hzz : w.heap.size < wq2.heap.size := by have := hq2.size; omega
          go_region_law (first
          | (refine step_append_list _ rfl (.tmp 34) (.tmp 37) 31 rfl 27 i0 _ Ident.cells 4 48 Try.underlying31 hi0 hz0 hz1 hz2 rfl (by omega) ident_len ident_one wq2.heap.size (.slice (some ⟨wq2.heap.size, 0, none⟩) 0 0) [] rfl (Owns.empty (by first | exact ((Blk.new' rfl).alloc _).drew | exact (Blk.new' rfl).alloc _) (by first | exact Nat.le_refl _ | exact Nat.le_add_right _ _ | assumption | (simp; done) | (simp; omega) | omega)) _ _ _ (l.take m) rfl (by simp; omega) ((hl2.take m).next (by repeat (first | with_reducible exact Below.refl _ _ | with_reducible assumption | (with_reducible refine Below.setCell ?_ ?_ _; rotate_left; focus (first | exact Nat.le_refl _ | exact Nat.le_add_right _ _ | (simp; done) | (simp; omega) | omega)) | (with_reducible refine Below.alloc ?_ ?_ _; rotate_left; focus (first | exact Nat.le_refl _ | exact Nat.le_add_right _ _ | (simp; done) | (simp; omega) | omega)) | with_reducible refine Below.drew ?_ | with_reducible refine below_drewN ?_ _ | (with_reducible refine below_nextN ?_ (by with_reducible assumption) ?_; rotate_left; focus (first | exact Nat.le_refl _ | exact Nat.le_add_right _ _ | (simp; done) | (simp; omega) | omega))))) (by simp; omega) (by simp [maxLen]; omega) (by first | exact Nat.le_refl _ | exact Nat.le_add_right _ _ | assumption | (simp; done) | (simp; omega) | omega) ?_; intro v1 w1 hown1 hg1 hat1; have hb1 : Below wq2.heap.size wq2 w1 := Below.grown (by repeat (first | with_reducible exact Below.refl _ _ | with_reducible assumption | (with_reducible refine Below.setCell ?_ ?_ _; rotate_left; focus (first | exact Nat.le_refl _ | exact Nat.le_add_right _ _ | (simp; done) | (simp; omega) | omega)) | (with_reducible refine Below.alloc ?_ ?_ _; rotate_left; focus (first | exact Nat.le_refl _ | exact Nat.le_add_right _ _ | (simp; done) | (simp; omega) | omega)) | with_reducible refine Below.drew ?_ | with_reducible refine below_drewN ?_ _ | (with_reducible refine below_nextN ?_ (by with_reducible assumption) ?_; rotate_left; focus (first | exact Nat.le_refl _ | exact Nat.le_add_right _ _ | (simp; done) | (simp; omega) | omega)))) hg1 (by first | exact Nat.le_refl _ | exact Nat.le_add_right _ _ | assumption | (simp; done) | (simp; omega) | omega) (own_row (by first | exact Nat.le_refl _ | exact Nat.le_add_right _ _ | assumption | (simp; done) | (simp; omega) | omega)); have hsz1 := hb1.size; have kx1 := (keepB hb1 w.heap.size hzz).1; have h40 : Blk w1 (wq2.heap.size + 1) 27 #[.string s, .int .i64 k, .int .i64 n, .string t] := Blk.grown (by first | exact (Blk.new' (by simp)).drew | exact Blk.new' (by simp)) hg1 (ne_row (by omega)))
          | (refine step_append_list _ rfl (.tmp 34) (.tmp 37) 31 rfl 27 i0 _ Ident.cells 4 48 Try.underlying31 hi0 hz0 hz1 hz2 rfl (by omega) ident_len ident_one wq2.heap.size (.slice (some ⟨(wq2.heap.size + 1), 0, none⟩) 0 0) [] rfl (Owns.empty (by first | exact (Blk.new' (by simp)).drew | exact Blk.new' (by simp)) (by first | exact Nat.le_refl _ | exact Nat.le_add_right _ _ | assumption | (simp; done) | (simp; omega) | omega)) _ _ _ (l.take m) rfl (by simp; omega) ((hl2.take m).next (by repeat (first | with_reducible exact Below.refl _ _ | with_reducible assumption | (with_reducible refine Below.setCell ?_ ?_ _; rotate_left; focus (first | exact Nat.le_refl _ | exact Nat.le_add_right _ _ | (simp; done) | (simp; omega) | omega)) | (with_reducible refine Below.alloc ?_ ?_ _; rotate_left; focus (first | exact Nat.le_refl _ | exact Nat.le_add_right _ _ | (simp; done) | (simp; omega) | omega)) | with_reducible refine Below.drew ?_ | with_reducible refine below_drewN ?_ _ | (with_reducible refine below_nextN ?_ (by with_reducible assumption) ?_; rotate_left; focus (first | exact Nat.le_refl _ | exact Nat.le_add_right _ _ | (simp; done) | (simp; omega) | omega))))) (by simp; omega) (by simp [maxLen]; omega) (by first | exact Nat.le_refl _ | exact Nat.le_add_right _ _ | assumption | (simp; done) | (simp; omega) | omega) ?_; intro v1 w1 hown1 hg1 hat1; have hb1 : Below wq2.heap.size wq2 w1 := Below.grown (by repeat (first | with_reducible exact Below.refl _ _ | with_reducible assumption | (with_reducible refine Below.setCell ?_ ?_ _; rotate_left; focus (first | exact Nat.le_refl _ | exact Nat.le_add_right _ _ | (simp; done) | (simp; omega) | omega)) | (with_reducible refine Below.alloc ?_ ?_ _; rotate_left; focus (first | exact Nat.le_refl _ | exact Nat.le_add_right _ _ | (simp; done) | (simp; omega) | omega)) | with_reducible refine Below.drew ?_ | with_reducible refine below_drewN ?_ _ | (with_reducible refine below_nextN ?_ (by with_reducible assumption) ?_; rotate_left; focus (first | exact Nat.le_refl _ | exact Nat.le_add_right _ _ | (simp; done) | (simp; omega) | omega)))) hg1 (by first | exact Nat.le_refl _ | exact Nat.le_add_right _ _ | assumption | (simp; done) | (simp; omega) | omega) (own_row (by first | exact Nat.le_refl _ | exact Nat.le_add_right _ _ | assumption | (simp; done) | (simp; omega) | omega)); have hsz1 := hb1.size; have kx1 := (keepB hb1 w.heap.size hzz).1; have h40 : Blk w1 wq2.heap.size 27 #[.string s, .int .i64 k, .int .i64 n, .string t] := Blk.grown (by first | exact ((Blk.new' rfl).alloc _).drew | exact (Blk.new' rfl).alloc _) hg1 (ne_row (by omega)))
          | (refine step_append_list _ rfl (.tmp 34) (.tmp 37) 31 rfl 27 i0 _ Ident.cells 4 48 Try.underlying31 hi0 hz0 hz1 hz2 rfl (by omega) ident_len ident_one wq2.heap.size (.slice (some ⟨wq2.heap.size, 0, none⟩) 0 0) [] rfl (Owns.empty (by first | exact (Blk.new' rfl).drew | exact Blk.new' rfl) (by first | exact Nat.le_refl _ | exact Nat.le_add_right _ _ | assumption | (simp; done) | (simp; omega) | omega)) _ _ _ (l.take m) rfl (by simp; omega) ((hl2.take m).next (by repeat (first | with_reducible exact Below.refl _ _ | with_reducible assumption | (with_reducible refine Below.setCell ?_ ?_ _; rotate_left; focus (first | exact Nat.le_refl _ | exact Nat.le_add_right _ _ | (simp; done) | (simp; omega) | omega)) | (with_reducible refine Below.alloc ?_ ?_ _; rotate_left; focus (first | exact Nat.le_refl _ | exact Nat.le_add_right _ _ | (simp; done) | (simp; omega) | omega)) | with_reducible refine Below.drew ?_ | with_reducible refine below_drewN ?_ _ | (with_reducible refine below_nextN ?_ (by with_reducible assumption) ?_; rotate_left; focus (first | exact Nat.le_refl _ | exact Nat.le_add_right _ _ | (simp; done) | (simp; omega) | omega))))) (by simp; omega) (by simp [maxLen]; omega) (by first | exact Nat.le_refl _ | exact Nat.le_add_right _ _ | assumption | (simp; done) | (simp; omega) | omega) ?_; intro v1 w1 hown1 hg1 hat1; have hb1 : Below wq2.heap.size wq2 w1 := Below.grown (by repeat (first | with_reducible exact Below.refl _ _ | with_reducible assumption | (with_reducible refine Below.setCell ?_ ?_ _; rotate_left; focus (first | exact Nat.le_refl _ | exact Nat.le_add_right _ _ | (simp; done) | (simp; omega) | omega)) | (with_reducible refine Below.alloc ?_ ?_ _; rotate_left; focus (first | exact Nat.le_refl _ | exact Nat.le_add_right _ _ | (simp; done) | (simp; omega) | omega)) | with_reducible refine Below.drew ?_ | with_reducible refine below_drewN ?_ _ | (with_reducible refine below_nextN ?_ (by with_reducible assumption) ?_; rotate_left; focus (first | exact Nat.le_refl _ | exact Nat.le_add_right _ _ | (simp; done) | (simp; omega) | omega)))) hg1 (by first | exact Nat.le_refl _ | exact Nat.le_add_right _ _ | assumption | (simp; done) | (simp; omega) | omega) (own_row (by first | exact Nat.le_refl _ | exact Nat.le_add_right _ _ | assumption | (simp; done) | (simp; omega) | omega)); have hsz1 := hb1.size; have kx1 := (keepB hb1 w.heap.size hzz).1)
          | (refine step_append_list _ rfl (.tmp 38) (.tmp 40) 31 rfl 27 i0 _ Ident.cells 4 48 Try.underlying31 hi0 hz0 hz1 hz2 rfl (by omega) ident_len ident_one wq2.heap.size v1 ([] ++ l.take m) rfl (by first | exact hown1 | exact hown1.alloc _) _ _ _ [⟨s, k, n, t⟩] rfl rfl (by first | exact Blk.one (enc := Ident.cells) (x := ⟨s, k, n, t⟩) (Blk.new' (by simp)) (by simp) | exact Blk.one (enc := Ident.cells) (x := ⟨s, k, n, t⟩) h40 h40.lt) (by simp; omega) (by simp [maxLen]; omega) (by have := hb1.size; simp; omega) ?_; intro v2 w2 hown2 hg2 hat2; have hb2 : Below wq2.heap.size wq2 w2 := Below.grown (by repeat (first | with_reducible exact Below.refl _ _ | with_reducible assumption | (with_reducible refine Below.setCell ?_ ?_ _; rotate_left; focus (first | exact Nat.le_refl _ | exact Nat.le_add_right _ _ | (simp; done) | (simp; omega) | omega)) | (with_reducible refine Below.alloc ?_ ?_ _; rotate_left; focus (first | exact Nat.le_refl _ | exact Nat.le_add_right _ _ | (simp; done) | (simp; omega) | omega)) | with_reducible refine Below.drew ?_ | with_reducible refine below_drewN ?_ _ | (with_reducible refine below_nextN ?_ (by with_reducible assumption) ?_; rotate_left; focus (first | exact Nat.le_refl _ | exact Nat.le_add_right _ _ | (simp; done) | (simp; omega) | omega)))) hg2 (by have := hb1.size; simp; omega) hown1.row; have hsz2 := hb2.size)
          | (refine step_append_list _ rfl (.tmp 41) (.tmp 44) 31 rfl 27 i0 _ Ident.cells 4 48 Try.underlying31 hi0 hz0 hz1 hz2 rfl (by omega) ident_len ident_one wq2.heap.size v2 ([] ++ l.take m ++ [⟨s, k, n, t⟩]) rfl hown2 _ _ _ (l.drop m) rfl (by simp) (hcut.next hb2) (by simp; omega) (by simp [maxLen]; omega) hb2.size ?_; intro v3 w3 hown3 hg3 hat3; have hb3 : Below wq2.heap.size wq2 w3 := Below.grown hb2 hg3 hb2.size hown2.row; obtain ⟨A3, c3, rfl, hc3, hs3, _⟩ := hown3.slice ident_len))
          all_goals (go_wp2; go_ret; rw [HE.out]; refine ⟨⟨A3, c3, ?_, ?_, ?_⟩, ?_⟩)
          all_goals first
            | (with_reducible refine below_nextN hbel hb3 ?_; exact hbel.size)
            | (simpa using hs3)
            | (simpa using hc3)
            | exact congrArg (fun n => Ending.returned (Value.slice A3 n c3)) (by first | (simp; omega) | rfl | omega | (simp; done))
    · have hmn : m = l.length := by omega
      have hK : insK l ⟨s, k, n, t⟩ = m := takeWhile_len _ l m (by omega) HLO.out (fun h => absurd h hlt)
      have e : insertId l ⟨s, k, n, t⟩ = l.take m ++ (⟨s, k, n, t⟩ :: l.drop m) := by rw [insertId, if_neg (by rw [hK, List.getElem?_eq_none (by omega)]; simp), hK]
      have HE := Lib.hid e
      have hdr : l.drop m = [] := List.drop_eq_nil_of_le (by omega)
      have HMN := Lib.hid hmn
      have HDR := Lib.hid hdr
      clear e hK hmn hdr
      go_wp2
      refine wp_region_bel (by kernel_rfl) (by kernel_rfl) ?_; (repeat (go_big_quiet_step ((fail)))); refine wpQuiet_nil ?_; intro wq hq
      have hkx : ∀ o, wq.cell? ⟨w.heap.size, o, none⟩ = wr.cell? ⟨w.heap.size, o, none⟩ := fun o => hq.cell (p := ⟨w.heap.size, o, none⟩) hz
      rw [← hkx] at x0 x1 x2 x3
      clear hkx
      have hz' : w.heap.size < wq.heap.size := by have := hq.size; omega
      have hq' := below_nextN hbw hq hbw.size
      go_wp2
      refine wp_region_bel (by kernel_rfl) (by kernel_rfl) ?_; (repeat (go_big_quiet_step ((fail)))); refine wpQuiet_nil ?_; intro wq2 hq2
      have hbel := below_nextN hq' hq2 hq'.size
      have hmc : m ≤ c := by omega
      have hl2 := hl.next hbel
      have hx2 : ∀ o, wq2.cell? ⟨w.heap.size, o, none⟩ = wq.cell? ⟨w.heap.size, o, none⟩ := fun o => hq2.cell (p := ⟨w.heap.size, o, none⟩) hz'
      rw [← hx2] at x0 x1 x2 x3
      clear hx2
      have hcut : ∀ A', SliceIs wq2 wq2.heap.size Ident.cells 4 A' (l.drop m) := fun A' => by rw [HDR.out]; exact SliceIs.nil
      have hzz : w.heap.size < wq2.heap.size := by have := hq2.size; omega
      go_wp2
      go_region_law (first
      | (refine step_append_list _ rfl (.tmp 34) (.tmp 37) 31 rfl 27 i0 _ Ident.cells 4 48 Try.underlying31 hi0 hz0 hz1 hz2 rfl (by omega) ident_len ident_one wq2.heap.size (.slice (some ⟨wq2.heap.size, 0, none⟩) 0 0) [] rfl (Owns.empty (by first | exact ((Blk.new' rfl).alloc _).drew | exact (Blk.new' rfl).alloc _) (by first | exact Nat.le_refl _ | exact Nat.le_add_right _ _ | assumption | (simp; done) | (simp; omega) | omega)) _ _ _ (l.take m) rfl (by simp; omega) ((hl2.take m).next (by repeat (first | with_reducible exact Below.refl _ _ | with_reducible assumption | (with_reducible refine Below.setCell ?_ ?_ _; rotate_left; focus (first | exact Nat.le_refl _ | exact Nat.le_add_right _ _ | (simp; done) | (simp; omega) | omega)) | (with_reducible refine Below.alloc ?_ ?_ _; rotate_left; focus (first | exact Nat.le_refl _ | exact Nat.le_add_right _ _ | (simp; done) | (simp; omega) | omega)) | with_reducible refine Below.drew ?_ | with_reducible refine below_drewN ?_ _ | (with_reducible refine below_nextN ?_ (by with_reducible assumption) ?_; rotate_left; focus (first | exact Nat.le_refl _ | exact Nat.le_add_right _ _ | (simp; done) | (simp; omega) | omega))))) (by simp; omega) (by simp [maxLen]; omega) (by first | exact Nat.le_refl _ | exact Nat.le_add_right _ _ | assumption | (simp; done) | (simp; omega) | omega) ?_; intro v1 w1 hown1 hg1 hat1; have hb1 : Below wq2.heap.size wq2 w1 := Below.grown (by repeat (first | with_reducible exact Below.refl _ _ | with_reducible assumption | (with_reducible refine Below.setCell ?_ ?_ _; rotate_left; focus (first | exact Nat.le_refl _ | exact Nat.le_add_right _ _ | (simp; done) | (simp; omega) | omega)) | (with_reducible refine Below.alloc ?_ ?_ _; rotate_left; focus (first | exact Nat.le_refl _ | exact Nat.le_add_right _ _ | (simp; done) | (simp; omega) | omega)) | with_reducible refine Below.drew ?_ | with_reducible refine below_drewN ?_ _ | (with_reducible refine below_nextN ?_ (by with_reducible assumption) ?_; rotate_left; focus (first | exact Nat.le_refl _ | exact Nat.le_add_right _ _ | (simp; done) | (simp; omega) | omega)))) hg1 (by first | exact Nat.le_refl _ | exact Nat.le_add_right _ _ | assumption | (simp; done) | (simp; omega) | omega) (own_row (by first | exact Nat.le_refl _ | exact Nat.le_add_right _ _ | assumption | (simp; done) | (simp; omega) | omega)); have hsz1 := hb1.size; have kx1 := (keepB hb1 w.heap.size hzz).1; have h40 : Blk w1 (wq2.heap.size + 1) 27 #[.string s, .int .i64 k, .int .i64 n, .string t] := Blk.grown (by first | exact (Blk.new' (by simp)).drew | exact Blk.new' (by simp)) hg1 (ne_row (by omega)))
      | (refine step_append_list _ rfl (.tmp 34) (.tmp 37) 31 rfl 27 i0 _ Ident.cells 4 48 Try.underlying31 hi0 hz0 hz1 hz2 rfl (by omega) ident_len ident_one wq2.heap.size (.slice (some ⟨(wq2.heap.size + 1), 0, none⟩) 0 0) [] rfl (Owns.empty (by first | exact (Blk.new' (by simp)).drew | exact Blk.new' (by simp)) (by first | exact Nat.le_refl _ | exact Nat.le_add_right _ _ | assumption | (simp; done) | (simp; omega) | omega)) _ _ _ (l.take m) rfl (by simp; omega) ((hl2.take m).next (by repeat (first | with_reducible exact Below.refl _ _ | with_reducible assumption | (with_reducible refine Below.setCell ?_ ?_ _; rotate_left; focus (first | exact Nat.le_refl _ | exact Nat.le_add_right _ _ | (simp; done) | (simp; omega) | omega)) | (with_reducible refine Below.alloc ?_ ?_ _; rotate_left; focus (first | exact Nat.le_refl _ | exact Nat.le_add_right _ _ | (simp; done) | (simp; omega) | omega)) | with_reducible refine Below.drew ?_ | with_reducible refine below_drewN ?_ _ | (with_reducible refine below_nextN ?_ (by with_reducible assumption) ?_; rotate_left; focus (first | exact Nat.le_refl _ | exact Nat.le_add_right _ _ | (simp; done) | (simp; omega) | omega))))) (by simp; omega) (by simp [maxLen]; omega) (by first | exact Nat.le_refl _ | exact Nat.le_add_right _ _ | assumption | (simp; done) | (simp; omega) | omega) ?_; intro v1 w1 hown1 hg1 hat1; have hb1 : Below wq2.heap.size wq2 w1 := Below.grown (by repeat (first | with_reducible exact Below.refl _ _ | with_reducible assumption | (with_reducible refine Below.setCell ?_ ?_ _; rotate_left; focus (first | exact Nat.le_refl _ | exact Nat.le_add_right _ _ | (simp; done) | (simp; omega) | omega)) | (with_reducible refine Below.alloc ?_ ?_ _; rotate_left; focus (first | exact Nat.le_refl _ | exact Nat.le_add_right _ _ | (simp; done) | (simp; omega) | omega)) | with_reducible refine Below.drew ?_ | with_reducible refine below_drewN ?_ _ | (with_reducible refine below_nextN ?_ (by with_reducible assumption) ?_; rotate_left; focus (first | exact Nat.le_refl _ | exact Nat.le_add_right _ _ | (simp; done) | (simp; omega) | omega)))) hg1 (by first | exact Nat.le_refl _ | exact Nat.le_add_right _ _ | assumption | (simp; done) | (simp; omega) | omega) (own_row (by first | exact Nat.le_refl _ | exact Nat.le_add_right _ _ | assumption | (simp; done) | (simp; omega) | omega)); have hsz1 := hb1.size; have kx1 := (keepB hb1 w.heap.size hzz).1; have h40 : Blk w1 wq2.heap.size 27 #[.string s, .int .i64 k, .int .i64 n, .string t] := Blk.grown (by first | exact ((Blk.new' rfl).alloc _).drew | exact (Blk.new' rfl).alloc _) hg1 (ne_row (by omega)))
      | (refine step_append_list _ rfl (.tmp 34) (.tmp 37) 31 rfl 27 i0 _ Ident.cells 4 48 Try.underlying31 hi0 hz0 hz1 hz2 rfl (by omega) ident_len ident_one wq2.heap.size (.slice (some ⟨wq2.heap.size, 0, none⟩) 0 0) [] rfl (Owns.empty (by first | exact (Blk.new' rfl).drew | exact Blk.new' rfl) (by first | exact Nat.le_refl _ | exact Nat.le_add_right _ _ | assumption | (simp; done) | (simp; omega) | omega)) _ _ _ (l.take m) rfl (by simp; omega) ((hl2.take m).next (by repeat (first | with_reducible exact Below.refl _ _ | with_reducible assumption | (with_reducible refine Below.setCell ?_ ?_ _; rotate_left; focus (first | exact Nat.le_refl _ | exact Nat.le_add_right _ _ | (simp; done) | (simp; omega) | omega)) | (with_reducible refine Below.alloc ?_ ?_ _; rotate_left; focus (first | exact Nat.le_refl _ | exact Nat.le_add_right _ _ | (simp; done) | (simp; omega) | omega)) | with_reducible refine Below.drew ?_ | with_reducible refine below_drewN ?_ _ | (with_reducible refine below_nextN ?_ (by with_reducible assumption) ?_; rotate_left; focus (first | exact Nat.le_refl _ | exact Nat.le_add_right _ _ | (simp; done) | (simp; omega) | omega))))) (by simp; omega) (by simp [maxLen]; omega) (by first | exact Nat.le_refl _ | exact Nat.le_add_right _ _ | assumption | (simp; done) | (simp; omega) | omega) ?_; intro v1 w1 hown1 hg1 hat1; have hb1 : Below wq2.heap.size wq2 w1 := Below.grown (by repeat (first | with_reducible exact Below.refl _ _ | with_reducible assumption | (with_reducible refine Below.setCell ?_ ?_ _; rotate_left; focus (first | exact Nat.le_refl _ | exact Nat.le_add_right _ _ | (simp; done) | (simp; omega) | omega)) | (with_reducible refine Below.alloc ?_ ?_ _; rotate_left; focus (first | exact Nat.le_refl _ | exact Nat.le_add_right _ _ | (simp; done) | (simp; omega) | omega)) | with_reducible refine Below.drew ?_ | with_reducible refine below_drewN ?_ _ | (with_reducible refine below_nextN ?_ (by with_reducible assumption) ?_; rotate_left; focus (first | exact Nat.le_refl _ | exact Nat.le_add_right _ _ | (simp; done) | (simp; omega) | omega)))) hg1 (by first | exact Nat.le_refl _ | exact Nat.le_add_right _ _ | assumption | (simp; done) | (simp; omega) | omega) (own_row (by first | exact Nat.le_refl _ | exact Nat.le_add_right _ _ | assumption | (simp; done) | (simp; omega) | omega)); have hsz1 := hb1.size; have kx1 := (keepB hb1 w.heap.size hzz).1)
      | (refine step_append_list _ rfl (.tmp 38) (.tmp 40) 31 rfl 27 i0 _ Ident.cells 4 48 Try.underlying31 hi0 hz0 hz1 hz2 rfl (by omega) ident_len ident_one wq2.heap.size v1 ([] ++ l.take m) rfl (by first | exact hown1 | exact hown1.alloc _) _ _ _ [⟨s, k, n, t⟩] rfl rfl (by first | exact Blk.one (enc := Ident.cells) (x := ⟨s, k, n, t⟩) (Blk.new' (by simp)) (by simp) | exact Blk.one (enc := Ident.cells) (x := ⟨s, k, n, t⟩) h40 h40.lt) (by simp; omega) (by simp [maxLen]; omega) (by have := hb1.size; simp; omega) ?_; intro v2 w2 hown2 hg2 hat2; have hb2 : Below wq2.heap.size wq2 w2 := Below.grown (by repeat (first | with_reducible exact Below.refl _ _ | with_reducible assumption | (with_reducible refine Below.setCell ?_ ?_ _; rotate_left; focus (first | exact Nat.le_refl _ | exact Nat.le_add_right _ _ | (simp; done) | (simp; omega) | omega)) | (with_reducible refine Below.alloc ?_ ?_ _; rotate_left; focus (first | exact Nat.le_refl _ | exact Nat.le_add_right _ _ | (simp; done) | (simp; omega) | omega)) | with_reducible refine Below.drew ?_ | with_reducible refine below_drewN ?_ _ | (with_reducible refine below_nextN ?_ (by with_reducible assumption) ?_; rotate_left; focus (first | exact Nat.le_refl _ | exact Nat.le_add_right _ _ | (simp; done) | (simp; omega) | omega)))) hg2 (by have := hb1.size; simp; omega) hown1.row; have hsz2 := hb2.size)
      | (refine step_append_list _ rfl (.tmp 41) (.tmp 44) 31 rfl 27 i0 _ Ident.cells 4 48 Try.underlying31 hi0 hz0 hz1 hz2 rfl (by omega) ident_len ident_one wq2.heap.size v2 ([] ++ l.take m ++ [⟨s, k, n, t⟩]) rfl hown2 _ _ _ (l.drop m) rfl (by simp) ((hcut _).next hb2) (by simp; omega) (by simp [maxLen]; omega) hb2.size ?_; intro v3 w3 hown3 hg3 hat3; have hb3 : Below wq2.heap.size wq2 w3 := Below.grown hb2 hg3 hb2.size hown2.row; obtain ⟨A3, c3, rfl, hc3, hs3, _⟩ := hown3.slice ident_len))
      all_goals go_wp2
      all_goals go_ret
      all_goals (rw [HE.out]; refine ⟨⟨A3, c3, ?_, ?_, ?_⟩, ?_⟩)
      all_goals first
        | (with_reducible refine below_nextN hbel hb3 ?_; exact hbel.size)
        | (simpa using hs3)
        | (simpa using hc3)
        | exact congrArg (fun n => Ending.returned (Value.slice A3 n c3)) (by first | (simp; omega) | rfl | omega | (simp; done))
end Go.Proofs.Ytoleifehijccmaa
