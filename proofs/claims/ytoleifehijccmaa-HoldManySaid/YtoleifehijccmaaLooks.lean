/-
  The laws' comparison of layer 16 with the reference: looks returns true for every list of links and all identifiers.
-/
import Derived.Test.YtoleifehijccmaaEquiv
namespace Go.Proofs.Ytoleifehijccmaa
set_option linter.unusedVariables false
open Go.RowKit

theorem identity_AtN (A : Option Addr) (c n : Nat) (l : List Link) (a : Ident) (seq : Int) (w : World) (hl : SliceIs w w.heap.size Link.cells 10 A l) (hln : l.length = n) (hn : n ≤ 1000000) (hs : Sane l) (hs1 : a.ns.size ≤ 1000000) (hseq : seq ≤ 9223372036854775807) :
    Calls Try.prog 13 #[.slice A n c, .agg #[.string a.ns, .int .i64 a.val.kind, .int .i64 a.val.num, .string a.val.text], .int .i64 seq] w fun e w' => (∃ out A' c', AtOut l a seq out ∧ e = .returned (.slice A' out.length c') ∧ SliceIs w' w'.heap.size Ident.cells 4 A' out) ∧ Below w.heap.size w w' := by
  subst hln
  refine (identity_At A c l a seq w hl hn hs hs1 hseq).mono ?_
  rintro e w' ⟨⟨out, A', c', h1, h2, _, h3⟩, hb⟩
  exact ⟨⟨out, A', c', h1, h2, h3⟩, hb⟩
theorem identity_SubjectN (A : Option Addr) (c n : Nat) (l : List Link) (a : Ident) (seq : Int) (w : World) (hl : SliceIs w w.heap.size Link.cells 10 A l) (hln : l.length = n) (hn : n ≤ 1000000) (hs : Sane l) (hs1 : a.ns.size ≤ 1000000) (hseq : seq ≤ 9223372036854775807) :
    Calls Try.prog 19 #[.slice A n c, .agg #[.string a.ns, .int .i64 a.val.kind, .int .i64 a.val.num, .string a.val.text], .int .i64 seq] w fun e w' => (∃ out A' c', SubjectOut l a seq out ∧ e = .returned (.slice A' out.length c') ∧ SliceIs w' w'.heap.size Ident.cells 4 A' out) ∧ Below w.heap.size w w' := by
  subst hln
  refine (identity_Subject A c l a seq w hl hn hs hs1 hseq).mono ?_
  rintro e w' ⟨⟨out, A', c', h1, h2, _, h3⟩, hb⟩
  exact ⟨⟨out, A', c', h1, h2, h3⟩, hb⟩
theorem ref16_AtN (A : Option Addr) (c n : Nat) (l : List Link) (a : Ident) (seq : Int) (w : World) (hl : SliceIs w w.heap.size Link.cells 10 A l) (hln : l.length = n) (hn : n ≤ 1000000) (hs : Sane l) (hs1 : a.ns.size ≤ 1000000) :
    Calls Try.prog 43 #[.slice A n c, .agg #[.string a.ns, .int .i64 a.val.kind, .int .i64 a.val.num, .string a.val.text], .int .i64 seq] w fun e w' => (∃ out A' c', AtOut l a seq out ∧ e = .returned (.slice A' out.length c') ∧ SliceIs w' w'.heap.size Ident.cells 4 A' out) ∧ Below w.heap.size w w' := by
  subst hln
  refine (ref16_At A c l a.ns a.val.kind a.val.num a.val.text seq w hl hn hs hs1).mono ?_
  rintro e w' ⟨⟨out, A', c', h1, h2, _, h3⟩, hb⟩
  exact ⟨⟨out, A', c', h1, h2, h3⟩, hb⟩
theorem ref16_SubjectN (A : Option Addr) (c n : Nat) (l : List Link) (a : Ident) (seq : Int) (w : World) (hl : SliceIs w w.heap.size Link.cells 10 A l) (hln : l.length = n) (hn : n ≤ 1000000) (hs : Sane l) (hs1 : a.ns.size ≤ 1000000) :
    Calls Try.prog 44 #[.slice A n c, .agg #[.string a.ns, .int .i64 a.val.kind, .int .i64 a.val.num, .string a.val.text], .int .i64 seq] w fun e w' => (∃ out A' c', SubjectOut l a seq out ∧ e = .returned (.slice A' out.length c') ∧ SliceIs w' w'.heap.size Ident.cells 4 A' out) ∧ Below w.heap.size w w' := by
  subst hln
  refine (ref16_Subject A c l a.ns a.val.kind a.val.num a.val.text seq w hl hn hs hs1).mono ?_
  rintro e w' ⟨⟨out, A', c', h1, h2, _, h3⟩, hb⟩
  exact ⟨⟨out, A', c', h1, h2, h3⟩, hb⟩
theorem identity_ValidN (A : Option Addr) (c n : Nat) (l : List Link) (w : World) (hl : SliceIs w w.heap.size Link.cells 10 A l) (hln : l.length = n) (hn : n ≤ 1000000) (hs : Sane l) {r : Bool} (hr : validLinks l = r) :
    Calls Try.prog 12 #[.slice A n c] w fun e w' => e = .returned (.bool r) ∧ Below w.heap.size w w' := by
  subst hln
  exact identity_ValidR hl hn hs hr
theorem ref16_ValidN (A : Option Addr) (c n : Nat) (l : List Link) (w : World) (hl : SliceIs w w.heap.size Link.cells 10 A l) (hln : l.length = n) (hn : n ≤ 1000000) (hs : Sane l) {r : Bool} (hr : validLinks l = r) :
    Calls Try.prog 41 #[.slice A n c] w fun e w' => e = .returned (.bool r) ∧ Below w.heap.size w w' := by
  subst hln
  exact ref16_ValidR hl hn hs hr
theorem ref16_LinkedB (A : Option Addr) (c n : Nat) (l : List Link) (a b : Ident) (seq : Int) (w : World) (hl : SliceIs w w.heap.size Link.cells 10 A l) (hln : l.length = n) (hn : n ≤ 1000000) (hs : Sane l) (hs1 : a.ns.size ≤ 1000000) (hs2 : b.ns.size ≤ 1000000) {r : Bool} (hr : linkedB l a b seq = r) :
    Calls Try.prog 42 #[.slice A n c, .agg #[.string a.ns, .int .i64 a.val.kind, .int .i64 a.val.num, .string a.val.text], .agg #[.string b.ns, .int .i64 b.val.kind, .int .i64 b.val.num, .string b.val.text], .int .i64 seq] w fun e w' =>
      e = .returned (.bool r) ∧ Below w.heap.size w w' := by
  subst hln hr
  refine (ref16_Linked A c l a.ns a.val.kind a.val.num a.val.text b.ns b.val.kind b.val.num b.val.text seq w hl hn hs hs1 hs2).mono ?_
  rintro e w' ⟨⟨r, hr, rfl⟩, hb⟩
  refine ⟨?_, hb⟩
  have h : LinkedOut l a b seq (linkedB l a b seq) := linkedB_iff l a b seq
  rw [LinkedOut.unique (a := a) (b := b) hr h]
theorem at_len' {l : List Link} {a : Ident} {seq : Int} {out : List Ident} (ho : AtOut l a seq out) : out.length ≤ 1000000 := by
  cases hv : validLinks l
  · unfold AtOut at ho
    rw [hv] at ho
    rw [show out = [] from ho]
    simp
  · exact at_len (by have := validLinks_len hv; omega) ho
theorem subject_len {l : List Link} {a : Ident} {seq : Int} {out : List Ident} (ho : SubjectOut l a seq out) : out.length ≤ 1000000 := by
  unfold SubjectOut at ho
  cases hv : validLinks l
  · rw [hv] at ho
    rw [show out = [] from ho]
    simp
  · split at ho
    · have h := nodup_le ho.1.nodup (l' := named l a) (fun y hy => by
        rcases (ho.2 y).1 hy with h | ⟨_, _, _, h⟩
        · exact h.named
        · exact h.named)
      rw [named_length] at h
      have := validLinks_len hv
      omega
    · rw [ho]; simp
set_option maxRecDepth 100000 in
set_option maxHeartbeats 4000000 in
theorem looks_any (A : Option Addr) (c n : Nat) (l : List Link) (a b : Ident) (seq : Int) (w : World) (hl : SliceIs w w.heap.size Link.cells 10 A l) (hln : l.length = n) (hn : n ≤ 1000000) (hs : Sane l) (hs1 : a.ns.size ≤ 1000000) (hs2 : b.ns.size ≤ 1000000) (hseq : seq ≤ 9223372036854775807) :
    Calls Try.prog 23 #[.slice A n c, .agg #[.string a.ns, .int .i64 a.val.kind, .int .i64 a.val.num, .string a.val.text], .agg #[.string b.ns, .int .i64 b.val.kind, .int .i64 b.val.num, .string b.val.text], .int .i64 seq] w fun e w' =>
      e = .returned (.bool true) ∧ Below w.heap.size w w' := by
  obtain ⟨vl, hvl⟩ : ∃ r, validLinks l = r := ⟨_, rfl⟩
  obtain ⟨lb, hlb⟩ : ∃ r, linkedB l a b seq = r := ⟨_, rfl⟩
  have HVL := Lib.hid hvl
  have HLB := Lib.hid hlb
  have HSN := Lib.hid hs
  have HQ := Lib.hid hseq
  have HL := Lib.hid hl
  clear hvl hlb hs hseq hl
  go_enter Try.func23, Try.ntmps23
  go_wp2_with fail
  refine abs_world (P := fun u => Code.wp _ _ _ _ u) (R := fun u => Blk u w.heap.size 27 a.cells.toArray ∧ Blk u (w.heap.size + 1) 27 b.cells.toArray ∧ SliceIs u u.heap.size Link.cells 10 A l ∧ Below w.heap.size w u) ⟨?_, ?_, ?_, ?_⟩ ?_
  · exact (Blk.new _ _ _).alloc _
  · exact Blk.new' (by simp)
  · exact HL.out.next (by repeat (first | with_reducible exact Below.refl _ _ | with_reducible assumption | (with_reducible refine Below.setCell ?_ ?_ _; rotate_left; focus (first | exact Nat.le_refl _ | exact Nat.le_add_right _ _ | (simp; done) | (simp; omega) | omega)) | (with_reducible refine Below.alloc ?_ ?_ _; rotate_left; focus (first | exact Nat.le_refl _ | exact Nat.le_add_right _ _ | (simp; done) | (simp; omega) | omega)) | with_reducible refine Below.drew ?_ | with_reducible refine below_drewN ?_ _ | (with_reducible refine below_nextN ?_ (by with_reducible assumption) ?_; rotate_left; focus (first | exact Nat.le_refl _ | exact Nat.le_add_right _ _ | (simp; done) | (simp; omega) | omega))))
  · repeat (first | with_reducible exact Below.refl _ _ | with_reducible assumption | (with_reducible refine Below.setCell ?_ ?_ _; rotate_left; focus (first | exact Nat.le_refl _ | exact Nat.le_add_right _ _ | (simp; done) | (simp; omega) | omega)) | (with_reducible refine Below.alloc ?_ ?_ _; rotate_left; focus (first | exact Nat.le_refl _ | exact Nat.le_add_right _ _ | (simp; done) | (simp; omega) | omega)) | with_reducible refine Below.drew ?_ | with_reducible refine below_drewN ?_ _ | (with_reducible refine below_nextN ?_ (by with_reducible assumption) ?_; rotate_left; focus (first | exact Nat.le_refl _ | exact Nat.le_add_right _ _ | (simp; done) | (simp; omega) | omega)))
  rintro W ⟨hba, hbb, hsl, hbW⟩
  obtain ⟨e0, e1, e2, e3⟩ := Ident.blk hba
  obtain ⟨e4, e5, e6, e7⟩ := Ident.blk hbb
  have mz0 := hba.lt
  have mz1 := hbb.lt
  have HSW := Lib.hid hsl
  clear hba hbb hsl HL
  refine wp_region_held_drew (S := (fun w' => w'.cell? ⟨w.heap.size, 0, none⟩ = some (.string a.ns) ∧ w'.cell? ⟨w.heap.size, 1, none⟩ = some (.int .i64 a.val.kind) ∧ w'.cell? ⟨w.heap.size, 2, none⟩ = some (.int .i64 a.val.num) ∧ w'.cell? ⟨w.heap.size, 3, none⟩ = some (.string a.val.text) ∧ w'.cell? ⟨w.heap.size + 1, 0, none⟩ = some (.string b.ns) ∧ w'.cell? ⟨w.heap.size + 1, 1, none⟩ = some (.int .i64 b.val.kind) ∧ w'.cell? ⟨w.heap.size + 1, 2, none⟩ = some (.int .i64 b.val.num) ∧ w'.cell? ⟨w.heap.size + 1, 3, none⟩ = some (.string b.val.text))) (by kernel_rfl) ⟨e0, e1, e2, e3, e4, e5, e6, e7⟩ (fun hHeld => ?_)
  refine wpAnyH_take (i := 0) (v := ?_) rfl (by kernel_rfl) (by kernel_rfl) (by kernel_rfl) (fun _ _ _ h => h) (Or.inl ⟨by kernel_rfl, ?_⟩) hHeld ?_
  rotate_left
  · (intro w hSw; (try dsimp only at hSw); go_simp; first | done | with_reducible rfl)
  (try simp only [Act.put, List.getElem_toArray, List.getElem_cons_zero, List.setIfInBounds_toArray, List.set_cons_zero, List.set_cons_succ])
  refine wpAnyH_take (i := 2) (v := ?_) rfl (by kernel_rfl) (by kernel_rfl) (by kernel_rfl) (fun _ _ _ h => h) (Or.inl ⟨by kernel_rfl, ?_⟩) hHeld ?_
  rotate_left
  · (intro w hSw; (try dsimp only at hSw); go_simp; first | done | with_reducible rfl)
  (try simp only [Act.put, List.getElem_toArray, List.getElem_cons_zero, List.getElem_cons_succ, List.setIfInBounds_toArray, List.set_cons_zero, List.set_cons_succ])
  refine wpAnyH_ready (rs := [1]) (by kernel_rfl) (by simp) ?_
  refine AllReadyH.cons rfl (fun K hK => ?_) AllReadyH.nil
  go_simp
  (go_at_call 12; (with_reducible refine (identity_ValidN A c n l _ (HSW.out.next (by repeat (first | with_reducible exact Below.refl _ _ | with_reducible assumption | (with_reducible refine Below.setCell ?_ ?_ _; rotate_left; focus (first | exact Nat.le_refl _ | exact Nat.le_add_right _ _ | (simp; done) | (simp; omega) | omega)) | (with_reducible refine Below.alloc ?_ ?_ _; rotate_left; focus (first | exact Nat.le_refl _ | exact Nat.le_add_right _ _ | (simp; done) | (simp; omega) | omega)) | with_reducible refine Below.drew ?_ | with_reducible refine below_drewN ?_ _ | (with_reducible refine below_nextN ?_ (by with_reducible assumption) ?_; rotate_left; focus (first | exact Nat.le_refl _ | exact Nat.le_add_right _ _ | (simp; done) | (simp; omega) | omega))))) hln hn HSN.out HVL.out).mono ?_); rintro e w1 ⟨rfl, hb1⟩; have hx1 : Below W.heap.size W w1 := (by repeat (first | with_reducible exact Below.refl _ _ | with_reducible assumption | (with_reducible refine Below.setCell ?_ ?_ _; rotate_left; focus (first | exact Nat.le_refl _ | exact Nat.le_add_right _ _ | (simp; done) | (simp; omega) | omega)) | (with_reducible refine Below.alloc ?_ ?_ _; rotate_left; focus (first | exact Nat.le_refl _ | exact Nat.le_add_right _ _ | (simp; done) | (simp; omega) | omega)) | with_reducible refine Below.drew ?_ | with_reducible refine below_drewN ?_ _ | (with_reducible refine below_nextN ?_ (by with_reducible assumption) ?_; rotate_left; focus (first | exact Nat.le_refl _ | exact Nat.le_add_right _ _ | (simp; done) | (simp; omega) | omega)))); have hz1 := hx1.size; obtain ⟨ka1, _, _⟩ := keepB hx1 w.heap.size mz0; obtain ⟨kb1, _, _⟩ := keepB hx1 (w.heap.size + 1) mz1)
  go_wp2_with fail
  refine hK.out _ _ ⟨?_, ?_, ?_, ?_, ?_, ?_, ?_, ?_⟩ (fun hHeld => ?_)
  iterate 8 (simp only [*])
  clear hK K
  (try simp only [Act.put, List.getElem_toArray, List.getElem_cons_zero, List.getElem_cons_succ, List.setIfInBounds_toArray, List.set_cons_zero, List.set_cons_succ])
  refine wpAnyH_ready (rs := [3]) (by kernel_rfl) (by simp) ?_
  refine AllReadyH.cons rfl (fun K hK => ?_) AllReadyH.nil
  go_simp
  (go_at_call 41; (with_reducible refine (ref16_ValidN A c n l _ (HSW.out.next (by repeat (first | with_reducible exact Below.refl _ _ | with_reducible assumption | (with_reducible refine Below.setCell ?_ ?_ _; rotate_left; focus (first | exact Nat.le_refl _ | exact Nat.le_add_right _ _ | (simp; done) | (simp; omega) | omega)) | (with_reducible refine Below.alloc ?_ ?_ _; rotate_left; focus (first | exact Nat.le_refl _ | exact Nat.le_add_right _ _ | (simp; done) | (simp; omega) | omega)) | with_reducible refine Below.drew ?_ | with_reducible refine below_drewN ?_ _ | (with_reducible refine below_nextN ?_ (by with_reducible assumption) ?_; rotate_left; focus (first | exact Nat.le_refl _ | exact Nat.le_add_right _ _ | (simp; done) | (simp; omega) | omega))))) hln hn HSN.out HVL.out).mono ?_); rintro e w2 ⟨rfl, hb2⟩; have hx2 : Below W.heap.size W w2 := (by repeat (first | with_reducible exact Below.refl _ _ | with_reducible assumption | (with_reducible refine Below.setCell ?_ ?_ _; rotate_left; focus (first | exact Nat.le_refl _ | exact Nat.le_add_right _ _ | (simp; done) | (simp; omega) | omega)) | (with_reducible refine Below.alloc ?_ ?_ _; rotate_left; focus (first | exact Nat.le_refl _ | exact Nat.le_add_right _ _ | (simp; done) | (simp; omega) | omega)) | with_reducible refine Below.drew ?_ | with_reducible refine below_drewN ?_ _ | (with_reducible refine below_nextN ?_ (by with_reducible assumption) ?_; rotate_left; focus (first | exact Nat.le_refl _ | exact Nat.le_add_right _ _ | (simp; done) | (simp; omega) | omega)))); have hz2 := hx2.size; obtain ⟨ka2, _, _⟩ := keepB hx2 w.heap.size mz0; obtain ⟨kb2, _, _⟩ := keepB hx2 (w.heap.size + 1) mz1)
  go_wp2_with fail
  refine hK.out _ _ ⟨?_, ?_, ?_, ?_, ?_, ?_, ?_, ?_⟩ (fun hHeld => ?_)
  iterate 8 (simp only [*])
  clear hK K
  (try simp only [Act.put, List.getElem_toArray, List.getElem_cons_zero, List.getElem_cons_succ, List.setIfInBounds_toArray, List.set_cons_zero, List.set_cons_succ])
  refine wpAnyH_take (i := 4) (v := ?_) rfl (by kernel_rfl) (by kernel_rfl) (by kernel_rfl) (fun _ _ _ h => h) (Or.inl ⟨by kernel_rfl, ?_⟩) hHeld ?_
  rotate_left
  · (intro w hSw; (try dsimp only at hSw); go_simp; first | done | with_reducible rfl)
  (try simp only [Act.put, List.getElem_toArray, List.getElem_cons_zero, List.getElem_cons_succ, List.setIfInBounds_toArray, List.set_cons_zero, List.set_cons_succ])
  refine wpAnyH_take (i := 5) (v := ?_) rfl (by kernel_rfl) (by kernel_rfl) (by kernel_rfl) (fun _ _ _ h => h) (Or.inl ⟨by kernel_rfl, ?_⟩) hHeld ?_
  rotate_left
  · (intro w hSw; (try dsimp only at hSw); go_simp; first | done | with_reducible rfl)
  (try simp only [Act.put, List.getElem_toArray, List.getElem_cons_zero, List.getElem_cons_succ, List.setIfInBounds_toArray, List.set_cons_zero, List.set_cons_succ])
  refine wpAnyH_take (i := 6) (v := ?_) rfl (by kernel_rfl) (by kernel_rfl) (by kernel_rfl) (fun _ _ _ h => h) (Or.inl ⟨by kernel_rfl, ?_⟩) hHeld ?_
  rotate_left
  · (intro w hSw; (try dsimp only at hSw); go_simp; first | done | with_reducible rfl)
  (try simp only [Act.put, List.getElem_toArray, List.getElem_cons_zero, List.getElem_cons_succ, List.setIfInBounds_toArray, List.set_cons_zero, List.set_cons_succ])
  refine wpAnyH_take (i := 7) (v := ?_) rfl (by kernel_rfl) (by kernel_rfl) (by kernel_rfl) (fun _ _ _ h => h) (Or.inl ⟨by kernel_rfl, ?_⟩) hHeld ?_
  rotate_left
  · (intro w hSw; (try dsimp only at hSw); go_simp; first | done | with_reducible rfl)
  (try simp only [Act.put, List.getElem_toArray, List.getElem_cons_zero, List.getElem_cons_succ, List.setIfInBounds_toArray, List.set_cons_zero, List.set_cons_succ])
  refine wpAnyH_take (i := 8) (v := ?_) rfl (by kernel_rfl) (by kernel_rfl) (by kernel_rfl) (fun _ _ _ h => h) (Or.inl ⟨by kernel_rfl, ?_⟩) hHeld ?_
  rotate_left
  · (intro w hSw; (try dsimp only at hSw); go_simp; first | done | with_reducible rfl)
  (try simp only [Act.put, List.getElem_toArray, List.getElem_cons_zero, List.getElem_cons_succ, List.setIfInBounds_toArray, List.set_cons_zero, List.set_cons_succ])
  refine wpAnyH_take (i := 9) (v := ?_) rfl (by kernel_rfl) (by kernel_rfl) (by kernel_rfl) (fun _ _ _ h => h) (Or.inl ⟨by kernel_rfl, ?_⟩) hHeld ?_
  rotate_left
  · (intro w hSw; (try dsimp only at hSw); go_simp; first | done | with_reducible rfl)
  (try simp only [Act.put, List.getElem_toArray, List.getElem_cons_zero, List.getElem_cons_succ, List.setIfInBounds_toArray, List.set_cons_zero, List.set_cons_succ])
  refine wpAnyH_take (i := 11) (v := ?_) rfl (by kernel_rfl) (by kernel_rfl) (by kernel_rfl) (fun _ _ _ h => h) (Or.inl ⟨by kernel_rfl, ?_⟩) hHeld ?_
  rotate_left
  · (intro w hSw; (try dsimp only at hSw); go_simp; first | done | with_reducible rfl)
  (try simp only [Act.put, List.getElem_toArray, List.getElem_cons_zero, List.getElem_cons_succ, List.setIfInBounds_toArray, List.set_cons_zero, List.set_cons_succ])
  refine wpAnyH_take (i := 12) (v := ?_) rfl (by kernel_rfl) (by kernel_rfl) (by kernel_rfl) (fun _ _ _ h => h) (Or.inl ⟨by kernel_rfl, ?_⟩) hHeld ?_
  rotate_left
  · (intro w hSw; (try dsimp only at hSw); go_simp; first | done | with_reducible rfl)
  (try simp only [Act.put, List.getElem_toArray, List.getElem_cons_zero, List.getElem_cons_succ, List.setIfInBounds_toArray, List.set_cons_zero, List.set_cons_succ])
  refine wpAnyH_take (i := 13) (v := ?_) rfl (by kernel_rfl) (by kernel_rfl) (by kernel_rfl) (fun _ _ _ h => h) (Or.inl ⟨by kernel_rfl, ?_⟩) hHeld ?_
  rotate_left
  · (intro w hSw; (try dsimp only at hSw); go_simp; first | done | with_reducible rfl)
  (try simp only [Act.put, List.getElem_toArray, List.getElem_cons_zero, List.getElem_cons_succ, List.setIfInBounds_toArray, List.set_cons_zero, List.set_cons_succ])
  refine wpAnyH_take (i := 14) (v := ?_) rfl (by kernel_rfl) (by kernel_rfl) (by kernel_rfl) (fun _ _ _ h => h) (Or.inl ⟨by kernel_rfl, ?_⟩) hHeld ?_
  rotate_left
  · (intro w hSw; (try dsimp only at hSw); go_simp; first | done | with_reducible rfl)
  (try simp only [Act.put, List.getElem_toArray, List.getElem_cons_zero, List.getElem_cons_succ, List.setIfInBounds_toArray, List.set_cons_zero, List.set_cons_succ])
  refine wpAnyH_ready (rs := [10]) (by kernel_rfl) (by simp) ?_
  refine AllReadyH.cons rfl (fun K hK => ?_) AllReadyH.nil
  go_simp
  (go_at_call 29; (with_reducible refine (identity_LinkedB A c n l a b seq _ (HSW.out.next (by repeat (first | with_reducible exact Below.refl _ _ | with_reducible assumption | (with_reducible refine Below.setCell ?_ ?_ _; rotate_left; focus (first | exact Nat.le_refl _ | exact Nat.le_add_right _ _ | (simp; done) | (simp; omega) | omega)) | (with_reducible refine Below.alloc ?_ ?_ _; rotate_left; focus (first | exact Nat.le_refl _ | exact Nat.le_add_right _ _ | (simp; done) | (simp; omega) | omega)) | with_reducible refine Below.drew ?_ | with_reducible refine below_drewN ?_ _ | (with_reducible refine below_nextN ?_ (by with_reducible assumption) ?_; rotate_left; focus (first | exact Nat.le_refl _ | exact Nat.le_add_right _ _ | (simp; done) | (simp; omega) | omega))))) hln hn HSN.out hs1 hs2 HQ.out HLB.out).mono ?_); rintro e w3 ⟨rfl, hb3⟩; have hx3 : Below W.heap.size W w3 := (by repeat (first | with_reducible exact Below.refl _ _ | with_reducible assumption | (with_reducible refine Below.setCell ?_ ?_ _; rotate_left; focus (first | exact Nat.le_refl _ | exact Nat.le_add_right _ _ | (simp; done) | (simp; omega) | omega)) | (with_reducible refine Below.alloc ?_ ?_ _; rotate_left; focus (first | exact Nat.le_refl _ | exact Nat.le_add_right _ _ | (simp; done) | (simp; omega) | omega)) | with_reducible refine Below.drew ?_ | with_reducible refine below_drewN ?_ _ | (with_reducible refine below_nextN ?_ (by with_reducible assumption) ?_; rotate_left; focus (first | exact Nat.le_refl _ | exact Nat.le_add_right _ _ | (simp; done) | (simp; omega) | omega)))); have hz3 := hx3.size; obtain ⟨ka3, _, _⟩ := keepB hx3 w.heap.size mz0; obtain ⟨kb3, _, _⟩ := keepB hx3 (w.heap.size + 1) mz1)
  go_wp2_with fail
  refine hK.out _ _ ⟨?_, ?_, ?_, ?_, ?_, ?_, ?_, ?_⟩ (fun hHeld => ?_)
  iterate 8 (simp only [*])
  clear hK K
  (try simp only [Act.put, List.getElem_toArray, List.getElem_cons_zero, List.getElem_cons_succ, List.setIfInBounds_toArray, List.set_cons_zero, List.set_cons_succ])
  refine wpAnyH_ready (rs := [15]) (by kernel_rfl) (by simp) ?_
  refine AllReadyH.cons rfl (fun K hK => ?_) AllReadyH.nil
  go_simp
  (go_at_call 42; (with_reducible refine (ref16_LinkedB A c n l a b seq _ (HSW.out.next (by repeat (first | with_reducible exact Below.refl _ _ | with_reducible assumption | (with_reducible refine Below.setCell ?_ ?_ _; rotate_left; focus (first | exact Nat.le_refl _ | exact Nat.le_add_right _ _ | (simp; done) | (simp; omega) | omega)) | (with_reducible refine Below.alloc ?_ ?_ _; rotate_left; focus (first | exact Nat.le_refl _ | exact Nat.le_add_right _ _ | (simp; done) | (simp; omega) | omega)) | with_reducible refine Below.drew ?_ | with_reducible refine below_drewN ?_ _ | (with_reducible refine below_nextN ?_ (by with_reducible assumption) ?_; rotate_left; focus (first | exact Nat.le_refl _ | exact Nat.le_add_right _ _ | (simp; done) | (simp; omega) | omega))))) hln hn HSN.out hs1 hs2 HLB.out).mono ?_); rintro e w4 ⟨rfl, hb4⟩; have hx4 : Below W.heap.size W w4 := (by repeat (first | with_reducible exact Below.refl _ _ | with_reducible assumption | (with_reducible refine Below.setCell ?_ ?_ _; rotate_left; focus (first | exact Nat.le_refl _ | exact Nat.le_add_right _ _ | (simp; done) | (simp; omega) | omega)) | (with_reducible refine Below.alloc ?_ ?_ _; rotate_left; focus (first | exact Nat.le_refl _ | exact Nat.le_add_right _ _ | (simp; done) | (simp; omega) | omega)) | with_reducible refine Below.drew ?_ | with_reducible refine below_drewN ?_ _ | (with_reducible refine below_nextN ?_ (by with_reducible assumption) ?_; rotate_left; focus (first | exact Nat.le_refl _ | exact Nat.le_add_right _ _ | (simp; done) | (simp; omega) | omega)))); have hz4 := hx4.size; obtain ⟨ka4, _, _⟩ := keepB hx4 w.heap.size mz0; obtain ⟨kb4, _, _⟩ := keepB hx4 (w.heap.size + 1) mz1)
  go_wp2_with fail
  refine hK.out _ _ ⟨?_, ?_, ?_, ?_, ?_, ?_, ?_, ?_⟩ (fun hHeld => ?_)
  iterate 8 (simp only [*])
  clear hK K
  (try simp only [Act.put, List.getElem_toArray, List.getElem_cons_zero, List.getElem_cons_succ, List.setIfInBounds_toArray, List.set_cons_zero, List.set_cons_succ])
  refine wpAnyH_take (i := 16) (v := ?_) rfl (by kernel_rfl) (by kernel_rfl) (by kernel_rfl) (fun _ _ _ h => h) (Or.inl ⟨by kernel_rfl, ?_⟩) hHeld ?_
  rotate_left
  · (intro w hSw; (try dsimp only at hSw); go_simp; first | done | with_reducible rfl)
  (try simp only [Act.put, List.getElem_toArray, List.getElem_cons_zero, List.getElem_cons_succ, List.setIfInBounds_toArray, List.set_cons_zero, List.set_cons_succ])
  refine wpAnyH_take (i := 17) (v := ?_) rfl (by kernel_rfl) (by kernel_rfl) (by kernel_rfl) (fun _ _ _ h => h) (Or.inl ⟨by kernel_rfl, ?_⟩) hHeld ?_
  rotate_left
  · (intro w hSw; (try dsimp only at hSw); go_simp; first | done | with_reducible rfl)
  (try simp only [Act.put, List.getElem_toArray, List.getElem_cons_zero, List.getElem_cons_succ, List.setIfInBounds_toArray, List.set_cons_zero, List.set_cons_succ])
  refine wpAnyH_take (i := 18) (v := ?_) rfl (by kernel_rfl) (by kernel_rfl) (by kernel_rfl) (fun _ _ _ h => h) (Or.inl ⟨by kernel_rfl, ?_⟩) hHeld ?_
  rotate_left
  · (intro w hSw; (try dsimp only at hSw); go_simp; first | done | with_reducible rfl)
  (try simp only [Act.put, List.getElem_toArray, List.getElem_cons_zero, List.getElem_cons_succ, List.setIfInBounds_toArray, List.set_cons_zero, List.set_cons_succ])
  refine wpAnyH_take (i := 19) (v := ?_) rfl (by kernel_rfl) (by kernel_rfl) (by kernel_rfl) (fun _ _ _ h => h) (Or.inl ⟨by kernel_rfl, ?_⟩) hHeld ?_
  rotate_left
  · (intro w hSw; (try dsimp only at hSw); go_simp; first | done | with_reducible rfl)
  (try simp only [Act.put, List.getElem_toArray, List.getElem_cons_zero, List.getElem_cons_succ, List.setIfInBounds_toArray, List.set_cons_zero, List.set_cons_succ])
  refine wpAnyH_take (i := 20) (v := ?_) rfl (by kernel_rfl) (by kernel_rfl) (by kernel_rfl) (fun _ _ _ h => h) (Or.inl ⟨by kernel_rfl, ?_⟩) hHeld ?_
  rotate_left
  · (intro w hSw; (try dsimp only at hSw); go_simp; first | done | with_reducible rfl)
  (try simp only [Act.put, List.getElem_toArray, List.getElem_cons_zero, List.getElem_cons_succ, List.setIfInBounds_toArray, List.set_cons_zero, List.set_cons_succ])
  refine wpAnyH_take (i := 21) (v := ?_) rfl (by kernel_rfl) (by kernel_rfl) (by kernel_rfl) (fun _ _ _ h => h) (Or.inl ⟨by kernel_rfl, ?_⟩) hHeld ?_
  rotate_left
  · (intro w hSw; (try dsimp only at hSw); go_simp; first | done | with_reducible rfl)
  (try simp only [Act.put, List.getElem_toArray, List.getElem_cons_zero, List.getElem_cons_succ, List.setIfInBounds_toArray, List.set_cons_zero, List.set_cons_succ])
  refine wpAnyH_take (i := 23) (v := ?_) rfl (by kernel_rfl) (by kernel_rfl) (by kernel_rfl) (fun _ _ _ h => h) (Or.inl ⟨by kernel_rfl, ?_⟩) hHeld ?_
  rotate_left
  · (intro w hSw; (try dsimp only at hSw); go_simp; first | done | with_reducible rfl)
  (try simp only [Act.put, List.getElem_toArray, List.getElem_cons_zero, List.getElem_cons_succ, List.setIfInBounds_toArray, List.set_cons_zero, List.set_cons_succ])
  refine wpAnyH_take (i := 24) (v := ?_) rfl (by kernel_rfl) (by kernel_rfl) (by kernel_rfl) (fun _ _ _ h => h) (Or.inl ⟨by kernel_rfl, ?_⟩) hHeld ?_
  rotate_left
  · (intro w hSw; (try dsimp only at hSw); go_simp; first | done | with_reducible rfl)
  (try simp only [Act.put, List.getElem_toArray, List.getElem_cons_zero, List.getElem_cons_succ, List.setIfInBounds_toArray, List.set_cons_zero, List.set_cons_succ])
  refine wpAnyH_take (i := 25) (v := ?_) rfl (by kernel_rfl) (by kernel_rfl) (by kernel_rfl) (fun _ _ _ h => h) (Or.inl ⟨by kernel_rfl, ?_⟩) hHeld ?_
  rotate_left
  · (intro w hSw; (try dsimp only at hSw); go_simp; first | done | with_reducible rfl)
  (try simp only [Act.put, List.getElem_toArray, List.getElem_cons_zero, List.getElem_cons_succ, List.setIfInBounds_toArray, List.set_cons_zero, List.set_cons_succ])
  refine wpAnyH_ready (rs := [22]) (by kernel_rfl) (by simp) ?_
  refine AllReadyH.cons rfl (fun K hK => ?_) AllReadyH.nil
  go_simp
  (go_at_call 13; (with_reducible refine (identity_AtN A c n l a seq _ (HSW.out.next (by repeat (first | with_reducible exact Below.refl _ _ | with_reducible assumption | (with_reducible refine Below.setCell ?_ ?_ _; rotate_left; focus (first | exact Nat.le_refl _ | exact Nat.le_add_right _ _ | (simp; done) | (simp; omega) | omega)) | (with_reducible refine Below.alloc ?_ ?_ _; rotate_left; focus (first | exact Nat.le_refl _ | exact Nat.le_add_right _ _ | (simp; done) | (simp; omega) | omega)) | with_reducible refine Below.drew ?_ | with_reducible refine below_drewN ?_ _ | (with_reducible refine below_nextN ?_ (by with_reducible assumption) ?_; rotate_left; focus (first | exact Nat.le_refl _ | exact Nat.le_add_right _ _ | (simp; done) | (simp; omega) | omega))))) hln hn HSN.out hs1 HQ.out).mono ?_); rintro e w5 ⟨⟨o5, A5, c5, ho5, rfl, hs5⟩, hb5⟩; have hx5 : Below W.heap.size W w5 := (by repeat (first | with_reducible exact Below.refl _ _ | with_reducible assumption | (with_reducible refine Below.setCell ?_ ?_ _; rotate_left; focus (first | exact Nat.le_refl _ | exact Nat.le_add_right _ _ | (simp; done) | (simp; omega) | omega)) | (with_reducible refine Below.alloc ?_ ?_ _; rotate_left; focus (first | exact Nat.le_refl _ | exact Nat.le_add_right _ _ | (simp; done) | (simp; omega) | omega)) | with_reducible refine Below.drew ?_ | with_reducible refine below_drewN ?_ _ | (with_reducible refine below_nextN ?_ (by with_reducible assumption) ?_; rotate_left; focus (first | exact Nat.le_refl _ | exact Nat.le_add_right _ _ | (simp; done) | (simp; omega) | omega)))); have hz5 := hx5.size; obtain ⟨ka5, _, _⟩ := keepB hx5 w.heap.size mz0; obtain ⟨kb5, _, _⟩ := keepB hx5 (w.heap.size + 1) mz1; have HO5 := Lib.hid ho5; clear ho5)
  go_wp2_with fail
  refine hK.out _ _ ⟨?_, ?_, ?_, ?_, ?_, ?_, ?_, ?_⟩ (fun hHeld => ?_)
  iterate 8 (simp only [*])
  clear hK K
  (try simp only [Act.put, List.getElem_toArray, List.getElem_cons_zero, List.getElem_cons_succ, List.setIfInBounds_toArray, List.set_cons_zero, List.set_cons_succ])
  refine wpAnyH_ready (rs := [26]) (by kernel_rfl) (by simp) ?_
  refine AllReadyH.cons rfl (fun K hK => ?_) AllReadyH.nil
  go_simp
  (go_at_call 43; (with_reducible refine (ref16_AtN A c n l a seq _ (HSW.out.next (by repeat (first | with_reducible exact Below.refl _ _ | with_reducible assumption | (with_reducible refine Below.setCell ?_ ?_ _; rotate_left; focus (first | exact Nat.le_refl _ | exact Nat.le_add_right _ _ | (simp; done) | (simp; omega) | omega)) | (with_reducible refine Below.alloc ?_ ?_ _; rotate_left; focus (first | exact Nat.le_refl _ | exact Nat.le_add_right _ _ | (simp; done) | (simp; omega) | omega)) | with_reducible refine Below.drew ?_ | with_reducible refine below_drewN ?_ _ | (with_reducible refine below_nextN ?_ (by with_reducible assumption) ?_; rotate_left; focus (first | exact Nat.le_refl _ | exact Nat.le_add_right _ _ | (simp; done) | (simp; omega) | omega))))) hln hn HSN.out hs1).mono ?_); rintro e w6 ⟨⟨o6, A6, c6, ho6, rfl, hs6⟩, hb6⟩; have hx6 : Below W.heap.size W w6 := (by repeat (first | with_reducible exact Below.refl _ _ | with_reducible assumption | (with_reducible refine Below.setCell ?_ ?_ _; rotate_left; focus (first | exact Nat.le_refl _ | exact Nat.le_add_right _ _ | (simp; done) | (simp; omega) | omega)) | (with_reducible refine Below.alloc ?_ ?_ _; rotate_left; focus (first | exact Nat.le_refl _ | exact Nat.le_add_right _ _ | (simp; done) | (simp; omega) | omega)) | with_reducible refine Below.drew ?_ | with_reducible refine below_drewN ?_ _ | (with_reducible refine below_nextN ?_ (by with_reducible assumption) ?_; rotate_left; focus (first | exact Nat.le_refl _ | exact Nat.le_add_right _ _ | (simp; done) | (simp; omega) | omega)))); have hz6 := hx6.size; obtain ⟨ka6, _, _⟩ := keepB hx6 w.heap.size mz0; obtain ⟨kb6, _, _⟩ := keepB hx6 (w.heap.size + 1) mz1; obtain rfl := HO5.out.unique ho6; clear ho6; have HS5 := Lib.hid (hs5.next hb6))
  go_wp2_with fail
  refine hK.out _ _ ⟨?_, ?_, ?_, ?_, ?_, ?_, ?_, ?_⟩ (fun hHeld => ?_)
  iterate 8 (simp only [*])
  clear hK K
  (try simp only [Act.put, List.getElem_toArray, List.getElem_cons_zero, List.getElem_cons_succ, List.setIfInBounds_toArray, List.set_cons_zero, List.set_cons_succ])
  refine wpAnyH_ready (rs := [27]) (by kernel_rfl) (by simp) ?_
  refine AllReadyH.cons rfl (fun K hK => ?_) AllReadyH.nil
  go_simp
  (go_at_call 22; (with_reducible refine (same_yes A5 A6 c5 c6 o5.length o5 _ rfl HS5.out hs6 (at_len' HO5.out)).mono ?_); rintro e w7 ⟨rfl, hb7⟩; have hx7 : Below W.heap.size W w7 := (by repeat (first | with_reducible exact Below.refl _ _ | with_reducible assumption | (with_reducible refine Below.setCell ?_ ?_ _; rotate_left; focus (first | exact Nat.le_refl _ | exact Nat.le_add_right _ _ | (simp; done) | (simp; omega) | omega)) | (with_reducible refine Below.alloc ?_ ?_ _; rotate_left; focus (first | exact Nat.le_refl _ | exact Nat.le_add_right _ _ | (simp; done) | (simp; omega) | omega)) | with_reducible refine Below.drew ?_ | with_reducible refine below_drewN ?_ _ | (with_reducible refine below_nextN ?_ (by with_reducible assumption) ?_; rotate_left; focus (first | exact Nat.le_refl _ | exact Nat.le_add_right _ _ | (simp; done) | (simp; omega) | omega)))); have hz7 := hx7.size; obtain ⟨ka7, _, _⟩ := keepB hx7 w.heap.size mz0; obtain ⟨kb7, _, _⟩ := keepB hx7 (w.heap.size + 1) mz1)
  go_wp2_with fail
  refine hK.out _ _ ⟨?_, ?_, ?_, ?_, ?_, ?_, ?_, ?_⟩ (fun hHeld => ?_)
  iterate 8 (simp only [*])
  clear hK K
  (try simp only [Act.put, List.getElem_toArray, List.getElem_cons_zero, List.getElem_cons_succ, List.setIfInBounds_toArray, List.set_cons_zero, List.set_cons_succ])
  refine wpAnyH_take (i := 28) (v := ?_) rfl (by kernel_rfl) (by kernel_rfl) (by kernel_rfl) (fun _ _ _ h => h) (Or.inl ⟨by kernel_rfl, ?_⟩) hHeld ?_
  rotate_left
  · (intro w hSw; (try dsimp only at hSw); go_simp; first | done | with_reducible rfl)
  (try simp only [Act.put, List.getElem_toArray, List.getElem_cons_zero, List.getElem_cons_succ, List.setIfInBounds_toArray, List.set_cons_zero, List.set_cons_succ])
  refine wpAnyH_take (i := 29) (v := ?_) rfl (by kernel_rfl) (by kernel_rfl) (by kernel_rfl) (fun _ _ _ h => h) (Or.inl ⟨by kernel_rfl, ?_⟩) hHeld ?_
  rotate_left
  · (intro w hSw; (try dsimp only at hSw); go_simp; first | done | with_reducible rfl)
  (try simp only [Act.put, List.getElem_toArray, List.getElem_cons_zero, List.getElem_cons_succ, List.setIfInBounds_toArray, List.set_cons_zero, List.set_cons_succ])
  refine wpAnyH_take (i := 30) (v := ?_) rfl (by kernel_rfl) (by kernel_rfl) (by kernel_rfl) (fun _ _ _ h => h) (Or.inl ⟨by kernel_rfl, ?_⟩) hHeld ?_
  rotate_left
  · (intro w hSw; (try dsimp only at hSw); go_simp; first | done | with_reducible rfl)
  (try simp only [Act.put, List.getElem_toArray, List.getElem_cons_zero, List.getElem_cons_succ, List.setIfInBounds_toArray, List.set_cons_zero, List.set_cons_succ])
  refine wpAnyH_take (i := 31) (v := ?_) rfl (by kernel_rfl) (by kernel_rfl) (by kernel_rfl) (fun _ _ _ h => h) (Or.inl ⟨by kernel_rfl, ?_⟩) hHeld ?_
  rotate_left
  · (intro w hSw; (try dsimp only at hSw); go_simp; first | done | with_reducible rfl)
  (try simp only [Act.put, List.getElem_toArray, List.getElem_cons_zero, List.getElem_cons_succ, List.setIfInBounds_toArray, List.set_cons_zero, List.set_cons_succ])
  refine wpAnyH_take (i := 32) (v := ?_) rfl (by kernel_rfl) (by kernel_rfl) (by kernel_rfl) (fun _ _ _ h => h) (Or.inl ⟨by kernel_rfl, ?_⟩) hHeld ?_
  rotate_left
  · (intro w hSw; (try dsimp only at hSw); go_simp; first | done | with_reducible rfl)
  (try simp only [Act.put, List.getElem_toArray, List.getElem_cons_zero, List.getElem_cons_succ, List.setIfInBounds_toArray, List.set_cons_zero, List.set_cons_succ])
  refine wpAnyH_take (i := 34) (v := ?_) rfl (by kernel_rfl) (by kernel_rfl) (by kernel_rfl) (fun _ _ _ h => h) (Or.inl ⟨by kernel_rfl, ?_⟩) hHeld ?_
  rotate_left
  · (intro w hSw; (try dsimp only at hSw); go_simp; first | done | with_reducible rfl)
  (try simp only [Act.put, List.getElem_toArray, List.getElem_cons_zero, List.getElem_cons_succ, List.setIfInBounds_toArray, List.set_cons_zero, List.set_cons_succ])
  refine wpAnyH_take (i := 35) (v := ?_) rfl (by kernel_rfl) (by kernel_rfl) (by kernel_rfl) (fun _ _ _ h => h) (Or.inl ⟨by kernel_rfl, ?_⟩) hHeld ?_
  rotate_left
  · (intro w hSw; (try dsimp only at hSw); go_simp; first | done | with_reducible rfl)
  (try simp only [Act.put, List.getElem_toArray, List.getElem_cons_zero, List.getElem_cons_succ, List.setIfInBounds_toArray, List.set_cons_zero, List.set_cons_succ])
  refine wpAnyH_take (i := 36) (v := ?_) rfl (by kernel_rfl) (by kernel_rfl) (by kernel_rfl) (fun _ _ _ h => h) (Or.inl ⟨by kernel_rfl, ?_⟩) hHeld ?_
  rotate_left
  · (intro w hSw; (try dsimp only at hSw); go_simp; first | done | with_reducible rfl)
  (try simp only [Act.put, List.getElem_toArray, List.getElem_cons_zero, List.getElem_cons_succ, List.setIfInBounds_toArray, List.set_cons_zero, List.set_cons_succ])
  refine wpAnyH_ready (rs := [33]) (by kernel_rfl) (by simp) ?_
  refine AllReadyH.cons rfl (fun K hK => ?_) AllReadyH.nil
  go_simp
  (go_at_call 19; (with_reducible refine (identity_SubjectN A c n l a seq _ (HSW.out.next (by repeat (first | with_reducible exact Below.refl _ _ | with_reducible assumption | (with_reducible refine Below.setCell ?_ ?_ _; rotate_left; focus (first | exact Nat.le_refl _ | exact Nat.le_add_right _ _ | (simp; done) | (simp; omega) | omega)) | (with_reducible refine Below.alloc ?_ ?_ _; rotate_left; focus (first | exact Nat.le_refl _ | exact Nat.le_add_right _ _ | (simp; done) | (simp; omega) | omega)) | with_reducible refine Below.drew ?_ | with_reducible refine below_drewN ?_ _ | (with_reducible refine below_nextN ?_ (by with_reducible assumption) ?_; rotate_left; focus (first | exact Nat.le_refl _ | exact Nat.le_add_right _ _ | (simp; done) | (simp; omega) | omega))))) hln hn HSN.out hs1 HQ.out).mono ?_); rintro e w8 ⟨⟨o8, A8, c8, ho8, rfl, hs8⟩, hb8⟩; have hx8 : Below W.heap.size W w8 := (by repeat (first | with_reducible exact Below.refl _ _ | with_reducible assumption | (with_reducible refine Below.setCell ?_ ?_ _; rotate_left; focus (first | exact Nat.le_refl _ | exact Nat.le_add_right _ _ | (simp; done) | (simp; omega) | omega)) | (with_reducible refine Below.alloc ?_ ?_ _; rotate_left; focus (first | exact Nat.le_refl _ | exact Nat.le_add_right _ _ | (simp; done) | (simp; omega) | omega)) | with_reducible refine Below.drew ?_ | with_reducible refine below_drewN ?_ _ | (with_reducible refine below_nextN ?_ (by with_reducible assumption) ?_; rotate_left; focus (first | exact Nat.le_refl _ | exact Nat.le_add_right _ _ | (simp; done) | (simp; omega) | omega)))); have hz8 := hx8.size; obtain ⟨ka8, _, _⟩ := keepB hx8 w.heap.size mz0; obtain ⟨kb8, _, _⟩ := keepB hx8 (w.heap.size + 1) mz1; have HO8 := Lib.hid ho8; clear ho8)
  go_wp2_with fail
  refine hK.out _ _ ⟨?_, ?_, ?_, ?_, ?_, ?_, ?_, ?_⟩ (fun hHeld => ?_)
  iterate 8 (simp only [*])
  clear hK K
  (try simp only [Act.put, List.getElem_toArray, List.getElem_cons_zero, List.getElem_cons_succ, List.setIfInBounds_toArray, List.set_cons_zero, List.set_cons_succ])
  refine wpAnyH_ready (rs := [37]) (by kernel_rfl) (by simp) ?_
  refine AllReadyH.cons rfl (fun K hK => ?_) AllReadyH.nil
  go_simp
  (go_at_call 44; (with_reducible refine (ref16_SubjectN A c n l a seq _ (HSW.out.next (by repeat (first | with_reducible exact Below.refl _ _ | with_reducible assumption | (with_reducible refine Below.setCell ?_ ?_ _; rotate_left; focus (first | exact Nat.le_refl _ | exact Nat.le_add_right _ _ | (simp; done) | (simp; omega) | omega)) | (with_reducible refine Below.alloc ?_ ?_ _; rotate_left; focus (first | exact Nat.le_refl _ | exact Nat.le_add_right _ _ | (simp; done) | (simp; omega) | omega)) | with_reducible refine Below.drew ?_ | with_reducible refine below_drewN ?_ _ | (with_reducible refine below_nextN ?_ (by with_reducible assumption) ?_; rotate_left; focus (first | exact Nat.le_refl _ | exact Nat.le_add_right _ _ | (simp; done) | (simp; omega) | omega))))) hln hn HSN.out hs1).mono ?_); rintro e w9 ⟨⟨o9, A9, c9, ho9, rfl, hs9⟩, hb9⟩; have hx9 : Below W.heap.size W w9 := (by repeat (first | with_reducible exact Below.refl _ _ | with_reducible assumption | (with_reducible refine Below.setCell ?_ ?_ _; rotate_left; focus (first | exact Nat.le_refl _ | exact Nat.le_add_right _ _ | (simp; done) | (simp; omega) | omega)) | (with_reducible refine Below.alloc ?_ ?_ _; rotate_left; focus (first | exact Nat.le_refl _ | exact Nat.le_add_right _ _ | (simp; done) | (simp; omega) | omega)) | with_reducible refine Below.drew ?_ | with_reducible refine below_drewN ?_ _ | (with_reducible refine below_nextN ?_ (by with_reducible assumption) ?_; rotate_left; focus (first | exact Nat.le_refl _ | exact Nat.le_add_right _ _ | (simp; done) | (simp; omega) | omega)))); have hz9 := hx9.size; obtain ⟨ka9, _, _⟩ := keepB hx9 w.heap.size mz0; obtain ⟨kb9, _, _⟩ := keepB hx9 (w.heap.size + 1) mz1; obtain rfl := HO8.out.unique ho9; clear ho9; have HS8 := Lib.hid (hs8.next hb9))
  go_wp2_with fail
  refine hK.out _ _ ⟨?_, ?_, ?_, ?_, ?_, ?_, ?_, ?_⟩ (fun hHeld => ?_)
  iterate 8 (simp only [*])
  clear hK K
  (try simp only [Act.put, List.getElem_toArray, List.getElem_cons_zero, List.getElem_cons_succ, List.setIfInBounds_toArray, List.set_cons_zero, List.set_cons_succ])
  refine wpAnyH_ready (rs := [38]) (by kernel_rfl) (by simp) ?_
  refine AllReadyH.cons rfl (fun K hK => ?_) AllReadyH.nil
  go_simp
  (go_at_call 22; (with_reducible refine (same_yes A8 A9 c8 c9 o8.length o8 _ rfl HS8.out hs9 (subject_len HO8.out)).mono ?_); rintro e w10 ⟨rfl, hb10⟩; have hx10 : Below W.heap.size W w10 := (by repeat (first | with_reducible exact Below.refl _ _ | with_reducible assumption | (with_reducible refine Below.setCell ?_ ?_ _; rotate_left; focus (first | exact Nat.le_refl _ | exact Nat.le_add_right _ _ | (simp; done) | (simp; omega) | omega)) | (with_reducible refine Below.alloc ?_ ?_ _; rotate_left; focus (first | exact Nat.le_refl _ | exact Nat.le_add_right _ _ | (simp; done) | (simp; omega) | omega)) | with_reducible refine Below.drew ?_ | with_reducible refine below_drewN ?_ _ | (with_reducible refine below_nextN ?_ (by with_reducible assumption) ?_; rotate_left; focus (first | exact Nat.le_refl _ | exact Nat.le_add_right _ _ | (simp; done) | (simp; omega) | omega)))); have hz10 := hx10.size; obtain ⟨ka10, _, _⟩ := keepB hx10 w.heap.size mz0; obtain ⟨kb10, _, _⟩ := keepB hx10 (w.heap.size + 1) mz1)
  go_wp2_with fail
  refine hK.out _ _ ⟨?_, ?_, ?_, ?_, ?_, ?_, ?_, ?_⟩ (fun hHeld => ?_)
  iterate 8 (simp only [*])
  clear hK K
  (try simp only [Act.put, List.getElem_toArray, List.getElem_cons_zero, List.getElem_cons_succ, List.setIfInBounds_toArray, List.set_cons_zero, List.set_cons_succ])
  refine wpAnyH_take (i := 39) (v := ?_) rfl (by kernel_rfl) (by kernel_rfl) (by kernel_rfl) (fun _ _ _ h => h) (Or.inl ⟨by kernel_rfl, ?_⟩) hHeld ?_
  rotate_left
  · (intro w hSw; (try dsimp only at hSw); go_simp; first | done | with_reducible rfl)
  (try simp only [Act.put, List.getElem_toArray, List.getElem_cons_zero, List.getElem_cons_succ, List.setIfInBounds_toArray, List.set_cons_zero, List.set_cons_succ])
  refine wpAnyH_take (i := 40) (v := ?_) rfl (by kernel_rfl) (by kernel_rfl) (by kernel_rfl) (fun _ _ _ h => h) (Or.inl ⟨by kernel_rfl, ?_⟩) hHeld ?_
  rotate_left
  · (intro w hSw; (try dsimp only at hSw); go_simp; first | done | with_reducible rfl)
  (try simp only [Act.put, List.getElem_toArray, List.getElem_cons_zero, List.getElem_cons_succ, List.setIfInBounds_toArray, List.set_cons_zero, List.set_cons_succ])
  refine wpAnyH_done (by kernel_rfl) ?_ _
  clear hHeld e0 e1 e2 e3 e4 e5 e6 e7 ka1 kb1 ka2 kb2 ka3 kb3 ka4 kb4 ka5 kb5 ka6 kb6 ka7 kb7 ka8 kb8 ka9 kb9 ka10 kb10
  go_wp2
  go_ret
  exact ⟨rfl, below_nextN hbW hx10 hbW.size⟩
end Go.Proofs.Ytoleifehijccmaa
