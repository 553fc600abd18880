/-
  Layer 16, the reference: Linked, At, Subject.
-/
import Derived.Test.YtoleifehijccmaaComp
import Derived.Test.YtoleifehijccmaaValid
namespace Go.Proofs.Ytoleifehijccmaa
set_option linter.unusedVariables false
open Go.RowKit

/-- What At returns: nothing for spoilt arguments, else the component. -/
def AtOut (l : List Link) (who : Ident) (seq : Int) (out : List Ident) : Prop :=
  if validLinks l && validId who then IsAt l who seq out else out = []
def SubjectOut (l : List Link) (who : Ident) (seq : Int) (out : List Ident) : Prop :=
  if validLinks l && validId who then IsSubject l who seq out else out = []
theorem AtOut.unique {l : List Link} {who : Ident} {seq : Int} {o o' : List Ident} (h : AtOut l who seq o) (h' : AtOut l who seq o') : o = o' := by
  unfold AtOut at *
  split at h
  · rename_i hh; rw [if_pos hh] at h'; exact h.unique h'
  · rename_i hh; rw [if_neg hh] at h'; rw [h, h']
theorem SubjectOut.unique {l : List Link} {who : Ident} {seq : Int} {o o' : List Ident} (h : SubjectOut l who seq o) (h' : SubjectOut l who seq o') : o = o' := by
  unfold SubjectOut at *
  split at h
  · rename_i hh; rw [if_pos hh] at h'; exact h.unique h'
  · rename_i hh; rw [if_neg hh] at h'; rw [h, h']

theorem ref16_ValidR {A : Option Addr} {c : Nat} {l : List Link} {w : World} (hl : SliceIs w w.heap.size Link.cells 10 A l) (hn : l.length ≤ 1000000) (hs : Sane l) {r : Bool} (hr : validLinks l = r) :
    Calls Try.prog 41 #[.slice A l.length c] w fun e w' => e = .returned (.bool r) ∧ Below w.heap.size w w' := by
  rw [← hr]
  exact ref16_Valid A c l w hl hn hs
theorem ref16_ValidIdR (s : ByteArray) (k n : Int) (t : ByteArray) (w : World) (hs : s.size ≤ 1000000) {r : Bool} (hr : validId ⟨s, k, n, t⟩ = r) :
    Calls Try.prog 26 #[.agg #[.string s, .int .i64 k, .int .i64 n, .string t]] w fun e w' => e = .returned (.bool r) ∧ Ext w w' := by
  rw [← hr]
  exact ref16_ValidIdentifier s k n t w hs

set_option maxHeartbeats 1000000 in
theorem ref16_At (A : Option Addr) (c : Nat) (l : List Link) (s : ByteArray) (k n : Int) (t : ByteArray) (seq : Int) (w : World) (hl : SliceIs w w.heap.size Link.cells 10 A l) (hn : l.length ≤ 1000000) (hs : Sane l) (hs' : s.size ≤ 1000000) :
    Calls Try.prog 43 #[.slice A l.length c, .agg #[.string s, .int .i64 k, .int .i64 n, .string t], .int .i64 seq] w fun e w' =>
      (∃ out A' c', AtOut l ⟨s, k, n, t⟩ seq out ∧ e = .returned (.slice A' out.length c') ∧ out.length ≤ c' ∧ SliceIs w' w'.heap.size Ident.cells 4 A' out) ∧ Below w.heap.size w w' := by
  have HS := Lib.hid hs
  clear hs
  cases hv : validLinks l
  · have HV := Lib.hid hv
    clear hv
    go_enter Try.func43, Try.ntmps43
    go_wp2_with (go_at_call 41; (with_reducible refine (ref16_ValidR (A := A) (c := c) (l := l) ?_ hn HS.out HV.out).mono ?_); (exact hl.next (by repeat (first | with_reducible exact Below.refl _ _ | with_reducible assumption | (with_reducible refine Below.setCell ?_ ?_ _; rotate_left; focus (first | exact Nat.le_refl _ | exact Nat.le_add_right _ _ | (simp; done) | (simp; omega) | omega)) | (with_reducible refine Below.alloc ?_ ?_ _; rotate_left; focus (first | exact Nat.le_refl _ | exact Nat.le_add_right _ _ | (simp; done) | (simp; omega) | omega)) | with_reducible refine Below.drew ?_ | with_reducible refine below_drewN ?_ _ | (with_reducible refine below_nextN ?_ (by with_reducible assumption) ?_; rotate_left; focus (first | exact Nat.le_refl _ | exact Nat.le_add_right _ _ | (simp; done) | (simp; omega) | omega))))); rintro e w1 ⟨rfl, hb1⟩; obtain ⟨c0, f0, z0⟩ := keepB hb1 w.heap.size (by first | assumption | (simp; done) | (simp; omega) | omega); have hx1 : Below w.heap.size w w1 := below_nextN (by repeat (first | with_reducible exact Below.refl _ _ | with_reducible assumption | (with_reducible refine Below.setCell ?_ ?_ _; rotate_left; focus (first | exact Nat.le_refl _ | exact Nat.le_add_right _ _ | (simp; done) | (simp; omega) | omega)) | (with_reducible refine Below.alloc ?_ ?_ _; rotate_left; focus (first | exact Nat.le_refl _ | exact Nat.le_add_right _ _ | (simp; done) | (simp; omega) | omega)) | with_reducible refine Below.drew ?_ | with_reducible refine below_drewN ?_ _ | (with_reducible refine below_nextN ?_ (by with_reducible assumption) ?_; rotate_left; focus (first | exact Nat.le_refl _ | exact Nat.le_add_right _ _ | (simp; done) | (simp; omega) | omega)))) hb1 (by first | exact Nat.le_refl _ | exact Nat.le_add_right _ _ | assumption | (simp; done) | (simp; omega) | omega))
    go_ret
    exact ⟨⟨[], none, 0, by unfold AtOut; rw [HV.out]; rfl, rfl, by simp, SliceIs.nil⟩, hx1⟩
  · have HV := Lib.hid hv
    clear hv
    cases hw : validId ⟨s, k, n, t⟩
    · have HW := Lib.hid hw
      clear hw
      go_enter Try.func43, Try.ntmps43
      go_wp2_with (first | (go_at_call 41; (with_reducible refine (ref16_ValidR (A := A) (c := c) (l := l) ?_ hn HS.out HV.out).mono ?_); (exact hl.next (by repeat (first | with_reducible exact Below.refl _ _ | with_reducible assumption | (with_reducible refine Below.setCell ?_ ?_ _; rotate_left; focus (first | exact Nat.le_refl _ | exact Nat.le_add_right _ _ | (simp; done) | (simp; omega) | omega)) | (with_reducible refine Below.alloc ?_ ?_ _; rotate_left; focus (first | exact Nat.le_refl _ | exact Nat.le_add_right _ _ | (simp; done) | (simp; omega) | omega)) | with_reducible refine Below.drew ?_ | with_reducible refine below_drewN ?_ _ | (with_reducible refine below_nextN ?_ (by with_reducible assumption) ?_; rotate_left; focus (first | exact Nat.le_refl _ | exact Nat.le_add_right _ _ | (simp; done) | (simp; omega) | omega))))); rintro e w1 ⟨rfl, hb1⟩; obtain ⟨c0, f0, z0⟩ := keepB hb1 w.heap.size (by first | assumption | (simp; done) | (simp; omega) | omega); have hx1 : Below w.heap.size w w1 := below_nextN (by repeat (first | with_reducible exact Below.refl _ _ | with_reducible assumption | (with_reducible refine Below.setCell ?_ ?_ _; rotate_left; focus (first | exact Nat.le_refl _ | exact Nat.le_add_right _ _ | (simp; done) | (simp; omega) | omega)) | (with_reducible refine Below.alloc ?_ ?_ _; rotate_left; focus (first | exact Nat.le_refl _ | exact Nat.le_add_right _ _ | (simp; done) | (simp; omega) | omega)) | with_reducible refine Below.drew ?_ | with_reducible refine below_drewN ?_ _ | (with_reducible refine below_nextN ?_ (by with_reducible assumption) ?_; rotate_left; focus (first | exact Nat.le_refl _ | exact Nat.le_add_right _ _ | (simp; done) | (simp; omega) | omega)))) hb1 (by first | exact Nat.le_refl _ | exact Nat.le_add_right _ _ | assumption | (simp; done) | (simp; omega) | omega)) | (go_at_call 26; (with_reducible refine (ref16_ValidIdR s k n t _ hs' HW.out).mono ?_); rintro e w2 ⟨rfl, hb2⟩; obtain ⟨c1, f1, z1⟩ := keepE hb2 w.heap.size (by first | assumption | (simp; done) | (simp; omega) | omega); have hx2 : Below w.heap.size w w2 := below_nextN hx1 hb2.1 hx1.size))
      go_ret
      exact ⟨⟨[], none, 0, by unfold AtOut; rw [HV.out, HW.out]; rfl, rfl, by simp, SliceIs.nil⟩, hx2⟩
    · have HW := Lib.hid hw
      clear hw
      go_enter Try.func43, Try.ntmps43
      go_wp2_with (first | (go_at_call 41; (with_reducible refine (ref16_ValidR (A := A) (c := c) (l := l) ?_ hn HS.out HV.out).mono ?_); (exact hl.next (by repeat (first | with_reducible exact Below.refl _ _ | with_reducible assumption | (with_reducible refine Below.setCell ?_ ?_ _; rotate_left; focus (first | exact Nat.le_refl _ | exact Nat.le_add_right _ _ | (simp; done) | (simp; omega) | omega)) | (with_reducible refine Below.alloc ?_ ?_ _; rotate_left; focus (first | exact Nat.le_refl _ | exact Nat.le_add_right _ _ | (simp; done) | (simp; omega) | omega)) | with_reducible refine Below.drew ?_ | with_reducible refine below_drewN ?_ _ | (with_reducible refine below_nextN ?_ (by with_reducible assumption) ?_; rotate_left; focus (first | exact Nat.le_refl _ | exact Nat.le_add_right _ _ | (simp; done) | (simp; omega) | omega))))); rintro e w1 ⟨rfl, hb1⟩; obtain ⟨c0, f0, z0⟩ := keepB hb1 w.heap.size (by first | assumption | (simp; done) | (simp; omega) | omega); have hx1 : Below w.heap.size w w1 := below_nextN (by repeat (first | with_reducible exact Below.refl _ _ | with_reducible assumption | (with_reducible refine Below.setCell ?_ ?_ _; rotate_left; focus (first | exact Nat.le_refl _ | exact Nat.le_add_right _ _ | (simp; done) | (simp; omega) | omega)) | (with_reducible refine Below.alloc ?_ ?_ _; rotate_left; focus (first | exact Nat.le_refl _ | exact Nat.le_add_right _ _ | (simp; done) | (simp; omega) | omega)) | with_reducible refine Below.drew ?_ | with_reducible refine below_drewN ?_ _ | (with_reducible refine below_nextN ?_ (by with_reducible assumption) ?_; rotate_left; focus (first | exact Nat.le_refl _ | exact Nat.le_add_right _ _ | (simp; done) | (simp; omega) | omega)))) hb1 (by first | exact Nat.le_refl _ | exact Nat.le_add_right _ _ | assumption | (simp; done) | (simp; omega) | omega)) | (go_at_call 26; (with_reducible refine (ref16_ValidIdR s k n t _ hs' HW.out).mono ?_); rintro e w2 ⟨rfl, hb2⟩; obtain ⟨c1, f1, z1⟩ := keepE hb2 w.heap.size (by first | assumption | (simp; done) | (simp; omega) | omega); have hx2 : Below w.heap.size w w2 := below_nextN hx1 hb2.1 hx1.size) | (go_at_call 72; (with_reducible refine (ref16_component A c l s k n t seq _ ?_ HV.out HW.out).mono ?_); (exact hl.next hx2); rintro e w3 ⟨⟨out, A3, c3, hout, rfl, hc3, hs3⟩, hb3⟩; have HOUT := Lib.hid hout; clear hout; have hx3 : Below w.heap.size w w3 := below_nextN hx2 hb3 hx2.size))
      go_ret
      exact ⟨⟨out, A3, c3, by unfold AtOut; rw [HV.out, HW.out]; exact HOUT.out, rfl, hc3, hs3⟩, hx3⟩

/-- Linked, of valid arguments: reached. -/
def LinkedOut (l : List Link) (a b : Ident) (seq : Int) (r : Bool) : Prop := r = true ↔ (validLinks l = true ∧ validId a = true ∧ validId b = true ∧ Reach l seq a b)
theorem LinkedOut.unique {l : List Link} {a b : Ident} {seq : Int} {r r' : Bool} (h : LinkedOut l a b seq r) (h' : LinkedOut l a b seq r') : r = r' := by
  unfold LinkedOut at *
  rw [Bool.eq_iff_iff, h, h']

theorem linked_no {l : List Link} {a b : Ident} {seq : Int} (h : ¬ (validLinks l = true ∧ validId a = true ∧ validId b = true)) : LinkedOut l a b seq false := by
  unfold LinkedOut
  constructor
  · intro h; cases h
  · rintro ⟨h1, h2, h3, _⟩; exact absurd ⟨h1, h2, h3⟩ h

set_option maxRecDepth 100000 in
set_option maxHeartbeats 1000000 in
theorem ref16_Linked (A : Option Addr) (c : Nat) (l : List Link) (s : ByteArray) (k n : Int) (t : ByteArray) (s2 : ByteArray) (k2 n2 : Int) (t2 : ByteArray) (seq : Int) (w : World) (hl : SliceIs w w.heap.size Link.cells 10 A l) (hn : l.length ≤ 1000000) (hs : Sane l) (hs' : s.size ≤ 1000000) (hs2 : s2.size ≤ 1000000) :
    Calls Try.prog 42 #[.slice A l.length c, .agg #[.string s, .int .i64 k, .int .i64 n, .string t], .agg #[.string s2, .int .i64 k2, .int .i64 n2, .string t2], .int .i64 seq] w fun e w' =>
      (∃ r, LinkedOut l ⟨s, k, n, t⟩ ⟨s2, k2, n2, t2⟩ seq r ∧ e = .returned (.bool r)) ∧ Below w.heap.size w w' := by
  have HS := Lib.hid hs
  clear hs
  go_enter Try.func42, Try.ntmps42
  go_wp2
  obtain ⟨W, hW⟩ : ∃ W : World, W = (w.alloc (.cells #[.string s, .int .i64 k, .int .i64 n, .string t] 27)).alloc (.cells #[.string s2, .int .i64 k2, .int .i64 n2, .string t2] 27) := ⟨_, rfl⟩
  have hbW : Below w.heap.size w W := by rw [hW]; repeat (first | with_reducible exact Below.refl _ _ | with_reducible assumption | (with_reducible refine Below.setCell ?_ ?_ _; rotate_left; focus (first | exact Nat.le_refl _ | exact Nat.le_add_right _ _ | (simp; done) | (simp; omega) | omega)) | (with_reducible refine Below.alloc ?_ ?_ _; rotate_left; focus (first | exact Nat.le_refl _ | exact Nat.le_add_right _ _ | (simp; done) | (simp; omega) | omega)) | with_reducible refine Below.drew ?_ | with_reducible refine below_drewN ?_ _ | (with_reducible refine below_nextN ?_ (by with_reducible assumption) ?_; rotate_left; focus (first | exact Nat.le_refl _ | exact Nat.le_add_right _ _ | (simp; done) | (simp; omega) | omega)))
  have hB0 : Blk W w.heap.size 27 #[.string s, .int .i64 k, .int .i64 n, .string t] := by rw [hW]; exact (Blk.new _ _ _).alloc _
  have hB1 : Blk W (w.heap.size + 1) 27 #[.string s2, .int .i64 k2, .int .i64 n2, .string t2] := by rw [hW]; exact Blk.new' (by simp)
  rw [← hW]
  clear hW
  have hlW := hl.next hbW
  have hz0 := hB0.lt
  have hz1 := hB1.lt
  have x0 := hB0.cell 0
  have x1 := hB0.cell 1
  have x2 := hB0.cell 2
  have x3 := hB0.cell 3
  have y0 := hB1.cell 0
  have y1 := hB1.cell 1
  have y2 := hB1.cell 2
  have y3 := hB1.cell 3
  simp only [List.getElem?_toArray, List.getElem?_cons_zero, List.getElem?_cons_succ] at x0 x1 x2 x3 y0 y1 y2 y3
  have HB0 := Lib.hid hB0
  have HB1 := Lib.hid hB1
  clear hB0 hB1
  have hk0 := keepQ (w := W) w.heap.size hz0
  have hk1 := keepQ (w := W) (w.heap.size + 1) hz1
  cases hv : validLinks l
  · have HV := Lib.hid hv
    clear hv
    refine wp_region_bel (by kernel_rfl) (by kernel_rfl) ?_; (repeat (go_big_quiet_step ((go_at_call 41; exact bel_of (ref16_ValidR (hlW.next (BelOf.h _)) hn HS.out HV.out))))); refine wpQuiet_nil ?_; intro wq hq
    go_wp2
    go_ret
    exact ⟨⟨false, linked_no (by rw [HV.out]; simp), rfl⟩, below_nextN hbW hq hbW.size⟩
  cases hw : validId ⟨s, k, n, t⟩
  · have HV := Lib.hid hv
    have HW := Lib.hid hw
    clear hv hw
    refine wp_region_bel (by kernel_rfl) (by kernel_rfl) ?_; (repeat (go_big_quiet_step ((first | (go_at_call 41; exact bel_of (ref16_ValidR (hlW.next (BelOf.h _)) hn HS.out HV.out)) | (go_at_call 26; exact bel_of_ext (ref16_ValidIdR s k n t _ hs' HW.out)))))); refine wpQuiet_nil ?_; intro wq hq
    go_wp2
    go_ret
    exact ⟨⟨false, linked_no (by rw [HW.out]; simp), rfl⟩, below_nextN hbW hq hbW.size⟩
  cases hw2 : validId ⟨s2, k2, n2, t2⟩
  · have HV := Lib.hid hv
    have HW := Lib.hid hw
    have HW2 := Lib.hid hw2
    clear hv hw hw2
    refine wp_region_bel (by kernel_rfl) (by kernel_rfl) ?_; (repeat (go_big_quiet_step ((first | (go_at_call 41; exact bel_of (ref16_ValidR (hlW.next (BelOf.h _)) hn HS.out HV.out)) | (go_at_call 26; with_reducible exact bel_of_ext (ref16_ValidIdR s k n t _ hs' HW.out)) | (go_at_call 26; with_reducible exact bel_of_ext (ref16_ValidIdR s2 k2 n2 t2 _ hs2 HW2.out)))))); refine wpQuiet_nil ?_; intro wq hq
    go_wp2
    go_ret
    exact ⟨⟨false, linked_no (by rw [HW2.out]; simp), rfl⟩, below_nextN hbW hq hbW.size⟩
  have HV := Lib.hid hv
  have HW := Lib.hid hw
  have HW2 := Lib.hid hw2
  clear hv hw hw2 hk0 hk1
  have hlen := validLinks_len HV.out
  go_region_with (first
    | (go_at_call 41; (with_reducible refine (ref16_ValidR (A := A) (c := c) (l := l) ?_ hn HS.out HV.out).mono ?_); (exact hlW.next (by repeat (first | with_reducible exact Below.refl _ _ | with_reducible assumption | (with_reducible refine Below.setCell ?_ ?_ _; rotate_left; focus (first | exact Nat.le_refl _ | exact Nat.le_add_right _ _ | (simp; done) | (simp; omega) | omega)) | (with_reducible refine Below.alloc ?_ ?_ _; rotate_left; focus (first | exact Nat.le_refl _ | exact Nat.le_add_right _ _ | (simp; done) | (simp; omega) | omega)) | with_reducible refine Below.drew ?_ | with_reducible refine below_drewN ?_ _ | (with_reducible refine below_nextN ?_ (by with_reducible assumption) ?_; rotate_left; focus (first | exact Nat.le_refl _ | exact Nat.le_add_right _ _ | (simp; done) | (simp; omega) | omega))))); rintro e w1 ⟨rfl, hb1⟩; obtain ⟨c0, f0, z0⟩ := keepB hb1 w.heap.size (by first | assumption | (simp; done) | (simp; omega) | omega); obtain ⟨d0, g0, q0⟩ := keepB hb1 (w.heap.size + 1) (by first | assumption | (simp; done) | (simp; omega) | omega); have hx1 : Below W.heap.size W w1 := below_nextN (by repeat (first | with_reducible exact Below.refl _ _ | with_reducible assumption | (with_reducible refine Below.setCell ?_ ?_ _; rotate_left; focus (first | exact Nat.le_refl _ | exact Nat.le_add_right _ _ | (simp; done) | (simp; omega) | omega)) | (with_reducible refine Below.alloc ?_ ?_ _; rotate_left; focus (first | exact Nat.le_refl _ | exact Nat.le_add_right _ _ | (simp; done) | (simp; omega) | omega)) | with_reducible refine Below.drew ?_ | with_reducible refine below_drewN ?_ _ | (with_reducible refine below_nextN ?_ (by with_reducible assumption) ?_; rotate_left; focus (first | exact Nat.le_refl _ | exact Nat.le_add_right _ _ | (simp; done) | (simp; omega) | omega)))) hb1 (by first | exact Nat.le_refl _ | exact Nat.le_add_right _ _ | assumption | (simp; done) | (simp; omega) | omega); have hsz1 := hx1.size)
    | (go_at_call 26; (with_reducible refine (ref16_ValidIdR s k n t _ hs' HW.out).mono ?_); rintro e w2 ⟨rfl, hb2⟩; obtain ⟨c1, f1, z1⟩ := keepE hb2 w.heap.size (by first | assumption | (simp; done) | (simp; omega) | omega); obtain ⟨d1, g1, q1⟩ := keepE hb2 (w.heap.size + 1) (by first | assumption | (simp; done) | (simp; omega) | omega); have hx2 : Below W.heap.size W w2 := below_nextN hx1 hb2.1 hsz1; have hsz2 := hx2.size)
    | (go_at_call 26; (with_reducible refine (ref16_ValidIdR s2 k2 n2 t2 _ hs2 HW2.out).mono ?_); rintro e w3 ⟨rfl, hb3⟩; obtain ⟨c2, f2, z2⟩ := keepE hb3 w.heap.size (by first | assumption | (simp; done) | (simp; omega) | omega); obtain ⟨d2, g2, q2⟩ := keepE hb3 (w.heap.size + 1) (by first | assumption | (simp; done) | (simp; omega) | omega); have hx3 : Below W.heap.size W w3 := below_nextN hx2 hb3.1 hsz2; have hsz3 := hx3.size)
    | (go_at_call 72; (with_reducible refine (ref16_component A c l s k n t seq _ ?_ HV.out HW.out).mono ?_); (exact hlW.next hx3); rintro e w4 ⟨⟨out, A4, c4, hout, rfl, hc4, hs4⟩, hb4⟩; have HOUT := Lib.hid hout; have hol : out.length ≤ 2 * l.length + 1 := (by rw [← named_length l ⟨s, k, n, t⟩]; exact nodup_le hout.1.nodup fun y hy => ((hout.2 y).1 hy).named); clear hout; obtain ⟨d3, g3, q3⟩ := keepB hb4 (w.heap.size + 1) (by first | assumption | (simp; done) | (simp; omega) | omega); have hx4 : Below W.heap.size W w4 := below_nextN hx3 hb4 hsz3; have hsz4 := hx4.size)
    | (go_at_call 21; (with_reducible refine (ref16_HasId (A := A4) (c := c4) (l := out) ⟨s2, k2, n2, t2⟩ ?_ ?_ rfl).mono ?_); (exact hs4); omega; rintro e w5 ⟨rfl, hb5⟩; have hx5 : Below W.heap.size W w5 := below_nextN hx4 hb5 hsz4))
  all_goals go_wp2
  all_goals go_ret
  all_goals exact ⟨⟨_, by unfold LinkedOut; rw [decide_eq_true_eq, HOUT.out.2]; exact ⟨fun h => ⟨HV.out, HW.out, HW2.out, h⟩, fun h => h.2.2.2⟩, rfl⟩, below_nextN hbW hx5 hbW.size⟩

end Go.Proofs.Ytoleifehijccmaa
