/-
  The sanity check of the laws of layer 16 (the examples of the chapter): awake returns true.
-/
import Derived.Test.YtoleifehijccmaaLinked
namespace Go.Proofs.Ytoleifehijccmaa
set_option linter.unusedVariables false
open Go.RowKit

theorem text_any (s : ByteArray) (w : World) (hs : s.size ≤ 32) :
    Calls Try.prog 71 #[.string s] w fun e w' => e = .returned (.agg #[.int .i64 2, .int .i64 0, .string s]) ∧ Ext w w' := by
  have hc : clean ⟨2, 0, s⟩ = ⟨2, 0, s⟩ := clean_yes (by simp [valB, hs])
  refine (ref01_Text s w).mono ?_
  rintro e w' ⟨rfl, hx⟩
  rw [hc]
  exact ⟨rfl, hx⟩
theorem name_any (s : ByteArray) (w : World) (hs : s.size ≤ 32) :
    Calls Try.prog 39 #[.string s] w fun e w' => e = .returned (.agg #[.string ⟨#[110]⟩, .int .i64 2, .int .i64 0, .string s]) ∧ Ext w w' := by
  go_enter Try.func39, Try.ntmps39
  go_wp2_with (go_at_call 71; refine (text_any s _ hs).mono ?_; rintro e w1 ⟨rfl, hb⟩; obtain ⟨c0, f0, z0⟩ := keepE hb w.heap.size (by first | assumption | (simp; done) | (simp; omega) | omega))
  refine bodyPost_ret (v := .agg #[.string ⟨#[110]⟩, .int .i64 2, .int .i64 0, .string s]) (by simp [results, Try.results39, go_sem, c0]) rfl ⟨rfl, ?_⟩
  repeat (first | with_reducible exact Ext.refl _ | with_reducible assumption | (with_reducible refine Ext.setCell ?_ ?_ _; rotate_left; focus (first | exact Nat.le_refl _ | exact Nat.le_add_right _ _ | (simp; done) | (simp; omega) | omega)) | with_reducible refine Ext.alloc ?_ _ | with_reducible refine Ext.drew ?_ | with_reducible refine Ext.drewN ?_ _ | (with_reducible refine Ext.trans ?_ (by with_reducible assumption)))

def nId (s : ByteArray) : Ident := ⟨⟨#[110]⟩, ⟨2, 0, s⟩⟩
def idA : Ident := nId ⟨#[97]⟩
def idB : Ident := nId ⟨#[98]⟩
def idC : Ident := nId ⟨#[99]⟩
def awakeLinks : List Link := [⟨idA, idB, 3, false⟩, ⟨idB, idC, 5, false⟩, ⟨idB, idA, 7, true⟩]
theorem isAt_mk {l : List Link} {who : Ident} {s : Int} {out : List Ident} (ha : Asc out) (hw : who ∈ out) (hr : ∀ y ∈ out, Reach l s who y)
    (hc : ∀ i (h : i < l.length), directB l l[i] i s = true → (l[i].a ∈ out ↔ l[i].b ∈ out)) : IsAt l who s out := by
  refine ⟨ha, fun y => ⟨hr y, fun h => ?_⟩⟩
  refine h.closed (· ∈ out) hw fun a b ha ⟨i, hi, hd, h⟩ => ?_
  have := hc i hi hd
  rcases h with ⟨rfl, rfl⟩ | ⟨rfl, rfl⟩
  · exact this.1 ha
  · exact this.2 ha
theorem awake_valid : validLinks awakeLinks = true := by decide +kernel
theorem validA : validId idA = true := by decide +kernel
theorem ascABC : Asc [idA, idB, idC] := by
  have h1 : cmpId idA idB < 0 := by decide +kernel
  have h2 : cmpId idA idC < 0 := by decide +kernel
  have h3 : cmpId idB idC < 0 := by decide +kernel
  unfold Asc
  simp [h1, h2, h3]
theorem at4 : IsAt awakeLinks idA 4 [idA, idB] := by
  refine isAt_mk (ascABC.sublist (by simp)) (by simp) ?_ ?_
  · intro y hy
    simp at hy
    rcases hy with rfl | rfl
    · exact .refl
    · exact .step .refl ⟨0, by decide, by decide +kernel, .inl ⟨rfl, rfl⟩⟩
  · decide +kernel
theorem at5 : IsAt awakeLinks idA 5 [idA, idB, idC] := by
  have hB : Reach awakeLinks 5 idA idB := .step .refl ⟨0, by decide, by decide +kernel, .inl ⟨rfl, rfl⟩⟩
  refine isAt_mk ascABC (by simp) ?_ ?_
  · intro y hy
    simp at hy
    rcases hy with rfl | rfl | rfl
    · exact .refl
    · exact hB
    · exact .step hB ⟨1, by decide, by decide +kernel, .inl ⟨rfl, rfl⟩⟩
  · decide +kernel
theorem at8 : IsAt awakeLinks idA 8 [idA] := by
  refine isAt_mk (by unfold Asc; simp) (by simp) ?_ ?_
  · intro y hy
    simp at hy
    rw [hy]
    exact .refl
  · decide +kernel
theorem sub4 : IsSubject awakeLinks idA 4 [idA, idB, idC] := by
  refine ⟨ascABC, fun y => ⟨fun h => .inr ⟨⟨idB, idC, 5, false⟩, by simp [awakeLinks], by decide, (at5.2 y).1 h⟩, ?_⟩⟩
  have hall : ∀ s, Reach awakeLinks s idA y → y ∈ [idA, idB, idC] := by
    intro s h
    have := h.named
    simpa [named, awakeLinks, or_comm, or_left_comm, or_assoc] using this
  rintro (h | ⟨x, _, _, h⟩)
  · exact hall _ h
  · exact hall _ h
theorem sub8 : IsSubject awakeLinks idA 8 [idA] := by
  refine ⟨at8.1, fun y => ?_⟩
  rw [at8.2]
  constructor
  · exact .inl
  · rintro (h | ⟨x, hx, h1, _⟩)
    · exact h
    · simp [awakeLinks] at hx
      rcases hx with rfl | rfl | rfl <;> simp at h1

theorem Blk.list {α : Type} {w : World} {g B : Nat} {t : TypeId} {enc : α → List Value} {k : Nat} {l : List α} (hk : ∀ x, (enc x).length = k) (h : Blk w g t (l.flatMap enc).toArray) (hB : g < B) : SliceIs w B enc k (some ⟨g, 0, none⟩) l := fun _ =>
  ⟨g, 0, rfl, hB, fun i hi j u hu => by
    have h0 := flat_get hk l i hi j u hu
    rw [Blk.cell h, Nat.zero_add]
    simpa using h0⟩
theorem link_len : ∀ x : Link, (Link.cells x).length = 10 := fun _ => rfl
theorem name_anyB (s : ByteArray) (w : World) (hs : s.size ≤ 32) :
    Calls Try.prog 39 #[.string s] w fun e w' => e = .returned (.agg #[.string ⟨#[110]⟩, .int .i64 2, .int .i64 0, .string s]) ∧ Below w.heap.size w w' :=
  (name_any s w hs).mono fun _ _ ⟨h1, h2⟩ => ⟨h1, h2.1⟩
theorem awake_sane : Sane awakeLinks := by
  intro x hx
  simp [awakeLinks] at hx
  rcases hx with rfl | rfl | rfl <;> decide
theorem awake_At (A : Option Addr) (seq : Int) (out : List Ident) (n : Nat) (hn : out.length = n) (h : IsAt awakeLinks idA seq out) (hseq : seq ≤ 9223372036854775807) (w : World) (hl : SliceIs w w.heap.size Link.cells 10 A awakeLinks) :
    Calls Try.prog 13 #[.slice A 3 3, .agg #[.string ⟨#[110]⟩, .int .i64 2, .int .i64 0, .string ⟨#[97]⟩], .int .i64 seq] w fun e w' =>
      (∃ A' c', e = .returned (.slice A' n c') ∧ SliceIs w' w'.heap.size Ident.cells 4 A' out) ∧ Below w.heap.size w w' := by
  refine (identity_At A 3 awakeLinks idA seq w hl (by decide) awake_sane (by decide) hseq).mono ?_
  rintro e w' ⟨⟨out', A', c', ho, rfl, hc, hs⟩, hb⟩
  have e : out' = out := by
    have : AtOut awakeLinks idA seq out := by unfold AtOut; rw [awake_valid, validA]; exact h
    exact ho.unique this
  subst e hn
  exact ⟨⟨A', c', rfl, hs⟩, hb⟩
theorem awake_Subject (A : Option Addr) (seq : Int) (out : List Ident) (n : Nat) (hn : out.length = n) (h : IsSubject awakeLinks idA seq out) (hseq : seq ≤ 9223372036854775807) (w : World) (hl : SliceIs w w.heap.size Link.cells 10 A awakeLinks) :
    Calls Try.prog 19 #[.slice A 3 3, .agg #[.string ⟨#[110]⟩, .int .i64 2, .int .i64 0, .string ⟨#[97]⟩], .int .i64 seq] w fun e w' =>
      (∃ A' c', e = .returned (.slice A' n c') ∧ SliceIs w' w'.heap.size Ident.cells 4 A' out) ∧ Below w.heap.size w w' := by
  refine (identity_Subject A 3 awakeLinks idA seq w hl (by decide) awake_sane (by decide) hseq).mono ?_
  rintro e w' ⟨⟨out', A', c', ho, rfl, hc, hs⟩, hb⟩
  have e : out' = out := by
    have : SubjectOut awakeLinks idA seq out := by unfold SubjectOut; rw [awake_valid, validA]; exact h
    exact ho.unique this
  subst e hn
  exact ⟨⟨A', c', rfl, hs⟩, hb⟩
theorem same_yes (A A' : Option Addr) (c c' n : Nat) (l : List Ident) (w : World) (hn : l.length = n) (hl : SliceIs w w.heap.size Ident.cells 4 A l) (hl' : SliceIs w w.heap.size Ident.cells 4 A' l) (hn' : n ≤ 1000000) :
    Calls Try.prog 22 #[.slice A n c, .slice A' n c'] w fun e w' => e = .returned (.bool true) ∧ Below w.heap.size w w' := by
  subst hn
  refine (ref16_Same A A' c c' l l w hl hl' hn' hn').mono ?_
  rintro e w' ⟨rfl, hb⟩
  exact ⟨by simp, hb⟩

set_option maxRecDepth 100000 in
set_option maxHeartbeats 4000000 in
theorem awake_any (w : World) : Calls Try.prog 14 #[] w fun e w' => e = .returned (.bool true) ∧ Below w.heap.size w w' := by
  go_enter Try.func14, Try.ntmps14
  go_wp2_with fail
  refine (name_anyB _ _ (by decide)).mono ?_
  rintro e w1 ⟨rfl, hb1⟩
  have hx1 : Below w.heap.size w w1 := (by repeat (first | with_reducible exact Below.refl _ _ | with_reducible assumption | (with_reducible refine Below.setCell ?_ ?_ _; rotate_left; focus (first | exact Nat.le_refl _ | exact Nat.le_add_right _ _ | (simp; done) | (simp; omega) | omega)) | (with_reducible refine Below.alloc ?_ ?_ _; rotate_left; focus (first | exact Nat.le_refl _ | exact Nat.le_add_right _ _ | (simp; done) | (simp; omega) | omega)) | with_reducible refine Below.drew ?_ | with_reducible refine below_drewN ?_ _ | (with_reducible refine below_nextN ?_ (by with_reducible assumption) ?_; rotate_left; focus (first | exact Nat.le_refl _ | exact Nat.le_add_right _ _ | (simp; done) | (simp; omega) | omega))))
  have hz1 := hx1.size
  go_wp2_with fail
  refine (name_anyB _ _ (by decide)).mono ?_
  rintro e w2 ⟨rfl, hb2⟩
  have hx2 : Below w.heap.size w w2 := (by repeat (first | with_reducible exact Below.refl _ _ | with_reducible assumption | (with_reducible refine Below.setCell ?_ ?_ _; rotate_left; focus (first | exact Nat.le_refl _ | exact Nat.le_add_right _ _ | (simp; done) | (simp; omega) | omega)) | (with_reducible refine Below.alloc ?_ ?_ _; rotate_left; focus (first | exact Nat.le_refl _ | exact Nat.le_add_right _ _ | (simp; done) | (simp; omega) | omega)) | with_reducible refine Below.drew ?_ | with_reducible refine below_drewN ?_ _ | (with_reducible refine below_nextN ?_ (by with_reducible assumption) ?_; rotate_left; focus (first | exact Nat.le_refl _ | exact Nat.le_add_right _ _ | (simp; done) | (simp; omega) | omega))))
  have hz2 := hx2.size
  go_wp2_with fail
  refine (name_anyB _ _ (by decide)).mono ?_
  rintro e w3 ⟨rfl, hb3⟩
  have hx3 : Below w.heap.size w w3 := (by repeat (first | with_reducible exact Below.refl _ _ | with_reducible assumption | (with_reducible refine Below.setCell ?_ ?_ _; rotate_left; focus (first | exact Nat.le_refl _ | exact Nat.le_add_right _ _ | (simp; done) | (simp; omega) | omega)) | (with_reducible refine Below.alloc ?_ ?_ _; rotate_left; focus (first | exact Nat.le_refl _ | exact Nat.le_add_right _ _ | (simp; done) | (simp; omega) | omega)) | with_reducible refine Below.drew ?_ | with_reducible refine below_drewN ?_ _ | (with_reducible refine below_nextN ?_ (by with_reducible assumption) ?_; rotate_left; focus (first | exact Nat.le_refl _ | exact Nat.le_add_right _ _ | (simp; done) | (simp; omega) | omega))))
  have hz3 := hx3.size
  go_wp2_with fail
  refine (name_anyB _ _ (by decide)).mono ?_
  rintro e w4 ⟨rfl, hb4⟩
  have hx4 : Below w.heap.size w w4 := (by repeat (first | with_reducible exact Below.refl _ _ | with_reducible assumption | (with_reducible refine Below.setCell ?_ ?_ _; rotate_left; focus (first | exact Nat.le_refl _ | exact Nat.le_add_right _ _ | (simp; done) | (simp; omega) | omega)) | (with_reducible refine Below.alloc ?_ ?_ _; rotate_left; focus (first | exact Nat.le_refl _ | exact Nat.le_add_right _ _ | (simp; done) | (simp; omega) | omega)) | with_reducible refine Below.drew ?_ | with_reducible refine below_drewN ?_ _ | (with_reducible refine below_nextN ?_ (by with_reducible assumption) ?_; rotate_left; focus (first | exact Nat.le_refl _ | exact Nat.le_add_right _ _ | (simp; done) | (simp; omega) | omega))))
  have hz4 := hx4.size
  go_wp2_with fail
  refine (name_anyB _ _ (by decide)).mono ?_
  rintro e w5 ⟨rfl, hb5⟩
  have hx5 : Below w.heap.size w w5 := (by repeat (first | with_reducible exact Below.refl _ _ | with_reducible assumption | (with_reducible refine Below.setCell ?_ ?_ _; rotate_left; focus (first | exact Nat.le_refl _ | exact Nat.le_add_right _ _ | (simp; done) | (simp; omega) | omega)) | (with_reducible refine Below.alloc ?_ ?_ _; rotate_left; focus (first | exact Nat.le_refl _ | exact Nat.le_add_right _ _ | (simp; done) | (simp; omega) | omega)) | with_reducible refine Below.drew ?_ | with_reducible refine below_drewN ?_ _ | (with_reducible refine below_nextN ?_ (by with_reducible assumption) ?_; rotate_left; focus (first | exact Nat.le_refl _ | exact Nat.le_add_right _ _ | (simp; done) | (simp; omega) | omega))))
  have hz5 := hx5.size
  go_wp2_with fail
  refine (name_anyB _ _ (by decide)).mono ?_
  rintro e w6 ⟨rfl, hb6⟩
  have hx6 : Below w.heap.size w w6 := (by repeat (first | with_reducible exact Below.refl _ _ | with_reducible assumption | (with_reducible refine Below.setCell ?_ ?_ _; rotate_left; focus (first | exact Nat.le_refl _ | exact Nat.le_add_right _ _ | (simp; done) | (simp; omega) | omega)) | (with_reducible refine Below.alloc ?_ ?_ _; rotate_left; focus (first | exact Nat.le_refl _ | exact Nat.le_add_right _ _ | (simp; done) | (simp; omega) | omega)) | with_reducible refine Below.drew ?_ | with_reducible refine below_drewN ?_ _ | (with_reducible refine below_nextN ?_ (by with_reducible assumption) ?_; rotate_left; focus (first | exact Nat.le_refl _ | exact Nat.le_add_right _ _ | (simp; done) | (simp; omega) | omega))))
  have hz6 := hx6.size
  go_wp2_with fail
  refine (name_anyB _ _ (by decide)).mono ?_
  rintro e w7 ⟨rfl, hb7⟩
  have hx7 : Below w.heap.size w w7 := (by repeat (first | with_reducible exact Below.refl _ _ | with_reducible assumption | (with_reducible refine Below.setCell ?_ ?_ _; rotate_left; focus (first | exact Nat.le_refl _ | exact Nat.le_add_right _ _ | (simp; done) | (simp; omega) | omega)) | (with_reducible refine Below.alloc ?_ ?_ _; rotate_left; focus (first | exact Nat.le_refl _ | exact Nat.le_add_right _ _ | (simp; done) | (simp; omega) | omega)) | with_reducible refine Below.drew ?_ | with_reducible refine below_drewN ?_ _ | (with_reducible refine below_nextN ?_ (by with_reducible assumption) ?_; rotate_left; focus (first | exact Nat.le_refl _ | exact Nat.le_add_right _ _ | (simp; done) | (simp; omega) | omega))))
  have hz7 := hx7.size
  go_wp2_with fail
  refine (name_anyB _ _ (by decide)).mono ?_
  rintro e w8 ⟨rfl, hb8⟩
  have hx8 : Below w.heap.size w w8 := (by repeat (first | with_reducible exact Below.refl _ _ | with_reducible assumption | (with_reducible refine Below.setCell ?_ ?_ _; rotate_left; focus (first | exact Nat.le_refl _ | exact Nat.le_add_right _ _ | (simp; done) | (simp; omega) | omega)) | (with_reducible refine Below.alloc ?_ ?_ _; rotate_left; focus (first | exact Nat.le_refl _ | exact Nat.le_add_right _ _ | (simp; done) | (simp; omega) | omega)) | with_reducible refine Below.drew ?_ | with_reducible refine below_drewN ?_ _ | (with_reducible refine below_nextN ?_ (by with_reducible assumption) ?_; rotate_left; focus (first | exact Nat.le_refl _ | exact Nat.le_add_right _ _ | (simp; done) | (simp; omega) | omega))))
  have hz8 := hx8.size
  go_wp2_with fail
  refine (name_anyB _ _ (by decide)).mono ?_
  rintro e w9 ⟨rfl, hb9⟩
  have hx9 : Below w.heap.size w w9 := (by repeat (first | with_reducible exact Below.refl _ _ | with_reducible assumption | (with_reducible refine Below.setCell ?_ ?_ _; rotate_left; focus (first | exact Nat.le_refl _ | exact Nat.le_add_right _ _ | (simp; done) | (simp; omega) | omega)) | (with_reducible refine Below.alloc ?_ ?_ _; rotate_left; focus (first | exact Nat.le_refl _ | exact Nat.le_add_right _ _ | (simp; done) | (simp; omega) | omega)) | with_reducible refine Below.drew ?_ | with_reducible refine below_drewN ?_ _ | (with_reducible refine below_nextN ?_ (by with_reducible assumption) ?_; rotate_left; focus (first | exact Nat.le_refl _ | exact Nat.le_add_right _ _ | (simp; done) | (simp; omega) | omega))))
  have hz9 := hx9.size
  go_wp2_with fail
  obtain ⟨W, hW⟩ : ∃ W : World, W = w9.alloc (.cells ([idA, idB, idC].flatMap Ident.cells).toArray 27) := ⟨_, rfl⟩
  have hW' : w9.alloc (.cells #[.string ⟨#[110]⟩, .int .i64 2, .int .i64 0, .string ⟨#[97]⟩, .string ⟨#[110]⟩, .int .i64 2, .int .i64 0, .string ⟨#[98]⟩, .string ⟨#[110]⟩, .int .i64 2, .int .i64 0, .string ⟨#[99]⟩] 27) = W := by rw [hW]; rfl
  rw [hW']
  have hb69 : Below (w6.heap.size + 1) (w6.alloc (.cells (awakeLinks.flatMap Link.cells).toArray 29)) w9 := by
    have h : Below (w6.alloc (.cells (awakeLinks.flatMap Link.cells).toArray 29)).heap.size (w6.alloc (.cells (awakeLinks.flatMap Link.cells).toArray 29)) w9 := (hb7.trans (hb8.mono hb7.size)).trans (hb9.mono (Nat.le_trans hb7.size hb8.size))
    simpa using h
  have hlk : SliceIs W W.heap.size Link.cells 10 (some ⟨w6.heap.size, 0, none⟩) awakeLinks := by
    have h1 : Blk w9 w6.heap.size 29 (awakeLinks.flatMap Link.cells).toArray := (Blk.new _ _ _).below hb69 (by omega)
    have h2 : Blk W w6.heap.size 29 (awakeLinks.flatMap Link.cells).toArray := by rw [hW]; exact h1.alloc _
    exact h2.list link_len h2.lt
  have hid : SliceIs W W.heap.size Ident.cells 4 (some ⟨w9.heap.size, 0, none⟩) [idA, idB, idC] := by
    have h2 : Blk W w9.heap.size 27 ([idA, idB, idC].flatMap Ident.cells).toArray := by rw [hW]; exact Blk.new _ _ _
    exact h2.list ident_len h2.lt
  have hbW : Below w.heap.size w W := by rw [hW]; exact hx9.alloc hz9 _
  have hid1 : SliceIs W W.heap.size Ident.cells 4 (some ⟨w9.heap.size, 0, none⟩) [idA] := hid.take 1
  have hid2 : SliceIs W W.heap.size Ident.cells 4 (some ⟨w9.heap.size, 0, none⟩) [idA, idB] := hid.take 2
  have HLK := Lib.hid hlk
  have HID3 := Lib.hid hid
  have HID1 := Lib.hid hid1
  have HID2 := Lib.hid hid2
  clear hW hW' hlk hid hid1 hid2 hb69 hb1 hb2 hb3 hb4 hb5 hb6 hb7 hb8 hb9 hx1 hx2 hx3 hx4 hx5 hx6 hx7 hx8 hx9 hz1 hz2 hz3 hz4 hz5 hz6 hz7 hz8 hz9
  go_region_with (first | (go_at_call 39; (refine (name_anyB _ _ (by decide)).mono ?_); rintro e wn ⟨rfl, hbn⟩; have hxn : Below W.heap.size W wn := (by repeat (first | with_reducible exact Below.refl _ _ | with_reducible assumption | (with_reducible refine Below.setCell ?_ ?_ _; rotate_left; focus (first | exact Nat.le_refl _ | exact Nat.le_add_right _ _ | (simp; done) | (simp; omega) | omega)) | (with_reducible refine Below.alloc ?_ ?_ _; rotate_left; focus (first | exact Nat.le_refl _ | exact Nat.le_add_right _ _ | (simp; done) | (simp; omega) | omega)) | with_reducible refine Below.drew ?_ | with_reducible refine below_drewN ?_ _ | (with_reducible refine below_nextN ?_ (by with_reducible assumption) ?_; rotate_left; focus (first | exact Nat.le_refl _ | exact Nat.le_add_right _ _ | (simp; done) | (simp; omega) | omega)))); have hzn := hxn.size) | (go_at_call 13; (with_reducible refine (awake_At (some ⟨w6.heap.size, 0, none⟩) 4 [idA, idB] 2 rfl at4 (by decide) _ (HLK.out.next hxn)).mono ?_); rintro e wa ⟨⟨Aa, ca, rfl, hsa⟩, hba⟩; have hxa : Below W.heap.size W wa := (by repeat (first | with_reducible exact Below.refl _ _ | with_reducible assumption | (with_reducible refine Below.setCell ?_ ?_ _; rotate_left; focus (first | exact Nat.le_refl _ | exact Nat.le_add_right _ _ | (simp; done) | (simp; omega) | omega)) | (with_reducible refine Below.alloc ?_ ?_ _; rotate_left; focus (first | exact Nat.le_refl _ | exact Nat.le_add_right _ _ | (simp; done) | (simp; omega) | omega)) | with_reducible refine Below.drew ?_ | with_reducible refine below_drewN ?_ _ | (with_reducible refine below_nextN ?_ (by with_reducible assumption) ?_; rotate_left; focus (first | exact Nat.le_refl _ | exact Nat.le_add_right _ _ | (simp; done) | (simp; omega) | omega)))); have hza := hxa.size) | (go_at_call 13; (with_reducible refine (awake_At (some ⟨w6.heap.size, 0, none⟩) 5 [idA, idB, idC] 3 rfl at5 (by decide) _ (HLK.out.next hxn)).mono ?_); rintro e wa ⟨⟨Aa, ca, rfl, hsa⟩, hba⟩; have hxa : Below W.heap.size W wa := (by repeat (first | with_reducible exact Below.refl _ _ | with_reducible assumption | (with_reducible refine Below.setCell ?_ ?_ _; rotate_left; focus (first | exact Nat.le_refl _ | exact Nat.le_add_right _ _ | (simp; done) | (simp; omega) | omega)) | (with_reducible refine Below.alloc ?_ ?_ _; rotate_left; focus (first | exact Nat.le_refl _ | exact Nat.le_add_right _ _ | (simp; done) | (simp; omega) | omega)) | with_reducible refine Below.drew ?_ | with_reducible refine below_drewN ?_ _ | (with_reducible refine below_nextN ?_ (by with_reducible assumption) ?_; rotate_left; focus (first | exact Nat.le_refl _ | exact Nat.le_add_right _ _ | (simp; done) | (simp; omega) | omega)))); have hza := hxa.size) | (go_at_call 19; (with_reducible refine (awake_Subject (some ⟨w6.heap.size, 0, none⟩) 4 [idA, idB, idC] 3 rfl sub4 (by decide) _ (HLK.out.next hxn)).mono ?_); rintro e wa ⟨⟨Aa, ca, rfl, hsa⟩, hba⟩; have hxa : Below W.heap.size W wa := (by repeat (first | with_reducible exact Below.refl _ _ | with_reducible assumption | (with_reducible refine Below.setCell ?_ ?_ _; rotate_left; focus (first | exact Nat.le_refl _ | exact Nat.le_add_right _ _ | (simp; done) | (simp; omega) | omega)) | (with_reducible refine Below.alloc ?_ ?_ _; rotate_left; focus (first | exact Nat.le_refl _ | exact Nat.le_add_right _ _ | (simp; done) | (simp; omega) | omega)) | with_reducible refine Below.drew ?_ | with_reducible refine below_drewN ?_ _ | (with_reducible refine below_nextN ?_ (by with_reducible assumption) ?_; rotate_left; focus (first | exact Nat.le_refl _ | exact Nat.le_add_right _ _ | (simp; done) | (simp; omega) | omega)))); have hza := hxa.size) | (go_at_call 19; (with_reducible refine (awake_Subject (some ⟨w6.heap.size, 0, none⟩) 8 [idA] 1 rfl sub8 (by decide) _ (HLK.out.next hxn)).mono ?_); rintro e wa ⟨⟨Aa, ca, rfl, hsa⟩, hba⟩; have hxa : Below W.heap.size W wa := (by repeat (first | with_reducible exact Below.refl _ _ | with_reducible assumption | (with_reducible refine Below.setCell ?_ ?_ _; rotate_left; focus (first | exact Nat.le_refl _ | exact Nat.le_add_right _ _ | (simp; done) | (simp; omega) | omega)) | (with_reducible refine Below.alloc ?_ ?_ _; rotate_left; focus (first | exact Nat.le_refl _ | exact Nat.le_add_right _ _ | (simp; done) | (simp; omega) | omega)) | with_reducible refine Below.drew ?_ | with_reducible refine below_drewN ?_ _ | (with_reducible refine below_nextN ?_ (by with_reducible assumption) ?_; rotate_left; focus (first | exact Nat.le_refl _ | exact Nat.le_add_right _ _ | (simp; done) | (simp; omega) | omega)))); have hza := hxa.size) | (go_at_call 22; (with_reducible refine (same_yes Aa (some ⟨w9.heap.size, 0, none⟩) ca 3 2 [idA, idB] _ rfl hsa (HID2.out.next hxa) (by decide)).mono ?_); rintro e ws ⟨rfl, hbs⟩; have hxs : Below W.heap.size W ws := (by repeat (first | with_reducible exact Below.refl _ _ | with_reducible assumption | (with_reducible refine Below.setCell ?_ ?_ _; rotate_left; focus (first | exact Nat.le_refl _ | exact Nat.le_add_right _ _ | (simp; done) | (simp; omega) | omega)) | (with_reducible refine Below.alloc ?_ ?_ _; rotate_left; focus (first | exact Nat.le_refl _ | exact Nat.le_add_right _ _ | (simp; done) | (simp; omega) | omega)) | with_reducible refine Below.drew ?_ | with_reducible refine below_drewN ?_ _ | (with_reducible refine below_nextN ?_ (by with_reducible assumption) ?_; rotate_left; focus (first | exact Nat.le_refl _ | exact Nat.le_add_right _ _ | (simp; done) | (simp; omega) | omega)))); have hzs := hxs.size) | (go_at_call 22; (with_reducible refine (same_yes Aa (some ⟨w9.heap.size, 0, none⟩) ca 3 3 [idA, idB, idC] _ rfl hsa (HID3.out.next hxa) (by decide)).mono ?_); rintro e ws ⟨rfl, hbs⟩; have hxs : Below W.heap.size W ws := (by repeat (first | with_reducible exact Below.refl _ _ | with_reducible assumption | (with_reducible refine Below.setCell ?_ ?_ _; rotate_left; focus (first | exact Nat.le_refl _ | exact Nat.le_add_right _ _ | (simp; done) | (simp; omega) | omega)) | (with_reducible refine Below.alloc ?_ ?_ _; rotate_left; focus (first | exact Nat.le_refl _ | exact Nat.le_add_right _ _ | (simp; done) | (simp; omega) | omega)) | with_reducible refine Below.drew ?_ | with_reducible refine below_drewN ?_ _ | (with_reducible refine below_nextN ?_ (by with_reducible assumption) ?_; rotate_left; focus (first | exact Nat.le_refl _ | exact Nat.le_add_right _ _ | (simp; done) | (simp; omega) | omega)))); have hzs := hxs.size) | (go_at_call 22; (with_reducible refine (same_yes Aa (some ⟨w9.heap.size, 0, none⟩) ca 3 1 [idA] _ rfl hsa (HID1.out.next hxa) (by decide)).mono ?_); rintro e ws ⟨rfl, hbs⟩; have hxs : Below W.heap.size W ws := (by repeat (first | with_reducible exact Below.refl _ _ | with_reducible assumption | (with_reducible refine Below.setCell ?_ ?_ _; rotate_left; focus (first | exact Nat.le_refl _ | exact Nat.le_add_right _ _ | (simp; done) | (simp; omega) | omega)) | (with_reducible refine Below.alloc ?_ ?_ _; rotate_left; focus (first | exact Nat.le_refl _ | exact Nat.le_add_right _ _ | (simp; done) | (simp; omega) | omega)) | with_reducible refine Below.drew ?_ | with_reducible refine below_drewN ?_ _ | (with_reducible refine below_nextN ?_ (by with_reducible assumption) ?_; rotate_left; focus (first | exact Nat.le_refl _ | exact Nat.le_add_right _ _ | (simp; done) | (simp; omega) | omega)))); have hzs := hxs.size))
  all_goals go_wp2
  all_goals go_ret
  all_goals exact ⟨rfl, hbW.trans (hxs.mono hbW.size)⟩
end Go.Proofs.Ytoleifehijccmaa
