/-
  The law IdentityEquivalence: at every position being in one component is an equivalence relation whose classes are the components.
-/
import Derived.Test.YtoleifehijccmaaLinks
import Derived.Deep.RegionHeld3
namespace Go.Proofs.Ytoleifehijccmaa
set_option linter.unusedVariables false
open Go.RowKit

/-- Linked as a plain function. -/
noncomputable def linkedB (l : List Link) (a b : Ident) (seq : Int) : Bool := @decide (validLinks l = true ∧ validId a = true ∧ validId b = true ∧ Reach l seq a b) (Classical.propDecidable _)
theorem linkedB_iff (l : List Link) (a b : Ident) (seq : Int) : linkedB l a b seq = true ↔ (validLinks l = true ∧ validId a = true ∧ validId b = true ∧ Reach l seq a b) := by
  unfold linkedB
  exact @decide_eq_true_iff _ (Classical.propDecidable _)
theorem identity_LinkedB (A : Option Addr) (c n : Nat) (l : List Link) (a b : Ident) (seq : Int) (w : World) (hl : SliceIs w w.heap.size Link.cells 10 A l) (hln : l.length = n) (hn : n ≤ 1000000) (hs : Sane l) (hs1 : a.ns.size ≤ 1000000) (hs2 : b.ns.size ≤ 1000000) (hseq : seq ≤ 9223372036854775807) {r : Bool} (hr : linkedB l a b seq = r) :
    Calls Try.prog 29 #[.slice A n c, .agg #[.string a.ns, .int .i64 a.val.kind, .int .i64 a.val.num, .string a.val.text], .agg #[.string b.ns, .int .i64 b.val.kind, .int .i64 b.val.num, .string b.val.text], .int .i64 seq] w fun e w' =>
      e = .returned (.bool r) ∧ Below w.heap.size w w' := by
  subst hln hr
  refine (identity_Linked A c l a b seq w hl hn hs hs1 hs2 hseq).mono ?_
  rintro e w' ⟨⟨r, hr, rfl⟩, hb⟩
  refine ⟨?_, hb⟩
  have h : LinkedOut l a b seq (linkedB l a b seq) := linkedB_iff l a b seq
  rw [hr.unique h]
theorem has_linked {l : List Link} {a b : Ident} {seq : Int} {out : List Ident} {r : Bool} (hv : validLinks l = true) (ha : validId a = true) (hb : validId b = true) (ho : AtOut l a seq out) (hr : linkedB l a b seq = r) : decide (b ∈ out) = r := by
  unfold AtOut at ho
  rw [hv, ha] at ho
  rw [← hr, Bool.eq_iff_iff, linkedB_iff, decide_eq_true_iff]
  have ho : IsAt l a seq out := ho
  rw [ho.2]
  exact ⟨fun h => ⟨hv, ha, hb, h⟩, fun h => h.2.2.2⟩
theorem at_len {l : List Link} {a : Ident} {seq : Int} {out : List Ident} (hl : l.length ≤ 1000) (ho : AtOut l a seq out) : out.length ≤ 1000000 := by
  unfold AtOut at ho
  split at ho
  · have := nodup_le ho.1.nodup (fun y hy => ((ho.2 y).1 hy).named)
    rw [named_length] at this
    omega
  · rw [ho]; simp
theorem at_same {l : List Link} {a b : Ident} {seq : Int} {o o' : List Ident} (hv : validLinks l = true) (ha : validId a = true) (hb : validId b = true) (hr : linkedB l a b seq = true) (ho : AtOut l a seq o) (ho' : AtOut l b seq o') : o = o' := by
  unfold AtOut at ho ho'
  rw [hv, ha] at ho
  rw [hv, hb] at ho'
  have ho : IsAt l a seq o := ho
  have ho' : IsAt l b seq o' := ho'
  have h := ((linkedB_iff _ _ _ _).1 hr).2.2.2
  exact Asc.ext ho.1 ho'.1 fun y => by rw [ho.2, ho'.2]; exact ⟨fun k => h.symm.trans k, fun k => h.trans k⟩
/-- The four cells of an identifier in a block of its own. -/
theorem Ident.blk {w : World} {g : Nat} {x : Ident} (h : Blk w g 27 x.cells.toArray) : w.cell? ⟨g, 0, none⟩ = some (.string x.ns) ∧ w.cell? ⟨g, 1, none⟩ = some (.int .i64 x.val.kind) ∧ w.cell? ⟨g, 2, none⟩ = some (.int .i64 x.val.num) ∧ w.cell? ⟨g, 3, none⟩ = some (.string x.val.text) :=
  ⟨h.cell 0, h.cell 1, h.cell 2, h.cell 3⟩

set_option maxRecDepth 100000 in
set_option maxHeartbeats 4000000 in
theorem equivalence_walk (A : Option Addr) (c : Nat) (t : List Int) (w : World) (hl : SliceIs w w.heap.size intCells 1 A t) (hn : t.length * 8 ≤ 140737488351232) :
    Calls Try.prog 8 #[.slice A t.length c] w fun e w' => e = .returned (.bool true) ∧ Below w.heap.size w w' := by
  have HL := Lib.hid hl
  clear hl
  go_enter Try.func8, Try.ntmps8
  go_wp2_with fail
  refine (tape_New A c t _ HL.out hn).mono ?_
  rintro e w1 ⟨⟨g, b, rfl, hg1, hb1, hk1⟩, hx1⟩
  have HK1 := Lib.hid hk1
  clear hk1
  go_wp2_with fail
  refine (tape_Links g b 8 _ HK1.out (by omega)).mono ?_
  rintro e w2 ⟨v2, l, s, rfl, hown2, hgen, hs4, hl8, hk2, hg2⟩
  obtain ⟨A2, c2, rfl, hc2, hsl2, hA2⟩ := hown2.slice link_len
  have hlt1 : g < w1.heap.size := HK1.out.ltg
  have hne2 : ∀ a, A2 = some a → some a.block ≠ some g := fun a ha e => by injection e with e; have := (hA2 a ha).1; omega
  have hval := hgen.links (by omega)
  have HV := Lib.hid hval
  have HSN := Lib.hid (valid_sane hval)
  have HK2 := Lib.hid hk2
  have HS2 := Lib.hid hsl2
  have HNE := Lib.hid hne2
  clear hk2 hsl2 hne2 hval hgen hown2 hA2
  go_wp2_with fail
  refine (tape_Next g b 25 _ HK2.out (by omega) (by omega)).mono ?_
  rintro e w3 ⟨seq, rfl, hseq, hk3, hg3⟩
  have hsq : (seq : Int) ≤ 9223372036854775807 := by rcases hseq with h | h <;> omega
  have HSQ := Lib.hid hsq
  have HK3 := Lib.hid hk3
  clear hk3 hseq hsq
  go_wp2_with fail
  refine (tape_Identifier g b _ HK3.out).mono ?_
  rintro e w4 ⟨xa, rfl, hva, hsa, hk4, hg4⟩
  go_wp2_with fail
  refine (tape_Identifier g b _ hk4).mono ?_
  rintro e w5 ⟨xb, rfl, hvb, hsb, hk5, hg5⟩
  go_wp2_with fail
  refine (tape_Identifier g b _ hk5).mono ?_
  rintro e w6 ⟨xc, rfl, hvc, hsc, hk6, hg6⟩
  have hg06 : w1.grownBy w6 (some g) := grown_trans (grown_trans (grown_trans (grown_trans hg2 hg3) hg4) hg5) hg6
  have hx6 : Below w.heap.size w w6 := Below.grown hx1 hg06 hx1.size (fun q e => by injection e with e; omega)
  have HS6 : Hid (SliceIs w6 w6.heap.size Link.cells 10 A2 l) := (((HS2.out.grown hg3 HNE.out).grown hg4 HNE.out).grown hg5 HNE.out).grown hg6 HNE.out
  clear hg06 hg2 hg3 hg4 hg5 hg6 hk4 hk5 hk6 HK1 HK2 HK3 HS2 HNE HL hx1
  go_wp2_with fail
  obtain ⟨X, hX⟩ : ∃ X, X = w6.heap.size := ⟨_, rfl⟩
  rw [← hX]
  refine abs_world (P := fun u => Code.wp _ _ _ _ u) (R := fun u => Blk u X 27 xa.cells.toArray ∧ Blk u (X + 1) 27 xb.cells.toArray ∧ Blk u (X + 1 + 1) 27 xc.cells.toArray ∧ SliceIs u u.heap.size Link.cells 10 A2 l ∧ Below w.heap.size w u) ⟨?_, ?_, ?_, ?_, ?_⟩ ?_
  · rw [hX]; exact ((Blk.new _ _ _).alloc _).alloc _
  · exact (Blk.new' (by simp [hX])).alloc _
  · exact Blk.new' (by simp [hX])
  · exact HS6.out.next (by repeat (first | with_reducible exact Below.refl _ _ | with_reducible assumption | (with_reducible refine Below.setCell ?_ ?_ _; rotate_left; focus (first | exact Nat.le_refl _ | exact Nat.le_add_right _ _ | (simp; done) | (simp; omega) | omega)) | (with_reducible refine Below.alloc ?_ ?_ _; rotate_left; focus (first | exact Nat.le_refl _ | exact Nat.le_add_right _ _ | (simp; done) | (simp; omega) | omega)) | with_reducible refine Below.drew ?_ | with_reducible refine below_drewN ?_ _ | (with_reducible refine below_nextN ?_ (by with_reducible assumption) ?_; rotate_left; focus (first | exact Nat.le_refl _ | exact Nat.le_add_right _ _ | (simp; done) | (simp; omega) | omega))))
  · exact ((hx6.alloc hx6.size _).alloc (by have := hx6.size; simp; omega) _).alloc (by have := hx6.size; simp; omega) _
  clear HS6 hx6 hX
  rintro W ⟨hba, hbb, hbc, hsl, hbW⟩
  obtain ⟨rab, hab⟩ : ∃ r, linkedB l xa xb seq = r := ⟨_, rfl⟩
  obtain ⟨rbc, hbc'⟩ : ∃ r, linkedB l xb xc seq = r := ⟨_, rfl⟩
  obtain ⟨rac, hac⟩ : ∃ r, linkedB l xa xc seq = r := ⟨_, rfl⟩
  have haa : linkedB l xa xa seq = true := (linkedB_iff _ _ _ _).2 ⟨HV.out, hva, hva, .refl⟩
  have hba' : linkedB l xb xa seq = rab := by
    rw [← hab, Bool.eq_iff_iff, linkedB_iff, linkedB_iff]
    exact ⟨fun h => ⟨h.1, h.2.2.1, h.2.1, h.2.2.2.symm⟩, fun h => ⟨h.1, h.2.2.1, h.2.1, h.2.2.2.symm⟩⟩
  have htr : rab = true → rbc = true → rac = true := by
    intro h1 h2
    rw [← hab, linkedB_iff] at h1
    rw [← hbc', linkedB_iff] at h2
    rw [← hac, linkedB_iff]
    exact ⟨h1.1, h1.2.1, h2.2.2.1, h1.2.2.2.trans h2.2.2.2⟩
  have HAB := Lib.hid hab
  have HBC := Lib.hid hbc'
  have HAC := Lib.hid hac
  have HAA := Lib.hid haa
  have HBA := Lib.hid hba'
  have HTR := Lib.hid htr
  have HVA := Lib.hid hva
  have HVB := Lib.hid hvb
  have HSW := Lib.hid hsl
  have HBA1 := Lib.hid hba
  have HBB1 := Lib.hid hbb
  have HBC1 := Lib.hid hbc
  obtain ⟨p0, p1, p2, p3⟩ := Ident.blk hba
  obtain ⟨q0, q1, q2, q3⟩ := Ident.blk hbb
  obtain ⟨t0, t1, t2, t3⟩ := Ident.blk hbc
  have hk0 := keepQ (w := W) X hba.lt
  have hk1 := keepQ (w := W) (X + 1) hbb.lt
  have hk2 := keepQ (w := W) (X + 1 + 1) hbc.lt
  clear hab hbc' hac haa hba' htr hva hvb hvc hsl hba hbb hbc
  refine wp_region_bel (by kernel_rfl) (by kernel_rfl) ?_; (repeat (go_big_quiet_step ((first
    | (go_at_call 29; with_reducible exact bel_of (identity_LinkedB A2 c2 l.length l xa xb seq _ (HSW.out.next (BelOf.h _)) rfl (by omega) HSN.out (by omega) (by omega) HSQ.out HAB.out))
    | (go_at_call 29; with_reducible exact bel_of (identity_LinkedB A2 c2 l.length l xb xc seq _ (HSW.out.next (BelOf.h _)) rfl (by omega) HSN.out (by omega) (by omega) HSQ.out HBC.out))
    | (go_at_call 29; with_reducible exact bel_of (identity_LinkedB A2 c2 l.length l xa xc seq _ (HSW.out.next (BelOf.h _)) rfl (by omega) HSN.out (by omega) (by omega) HSQ.out HAC.out)))))); refine wpQuiet_nil ?_; intro wq hq
  clear hk0 hk1 hk2 p0 p1 p2 p3 q0 q1 q2 q3 t0 t1 t2 t3
  have hbq := below_next hbW hq
  have hPa : Blk wq X 27 xa.cells.toArray := HBA1.out.below hq HBA1.out.lt
  have hPb : Blk wq (X + 1) 27 xb.cells.toArray := HBB1.out.below hq HBB1.out.lt
  have HSQ1 : Hid (SliceIs wq wq.heap.size Link.cells 10 A2 l) := HSW.out.next hq
  obtain ⟨p0, p1, p2, p3⟩ := Ident.blk hPa
  obtain ⟨q0, q1, q2, q3⟩ := Ident.blk hPb
  have hza := hPa.lt
  have hzb := hPb.lt
  clear hPa hPb HBA1 HBB1 HBC1 HSW
  cases rab
  · go_wp2_with (first
      | (go_at_call 29; (with_reducible refine (identity_LinkedB A2 c2 l.length l xa xa seq _ (HSQ1.out) rfl (by omega) HSN.out (by omega) (by omega) HSQ.out HAA.out).mono ?_); rintro e w7 ⟨rfl, hb7⟩; obtain ⟨k0, kf0, kz0⟩ := keepB hb7 X hza; obtain ⟨k1, kf1, kz1⟩ := keepB hb7 (X + 1) hzb; have hx7 := below_next hbq hb7)
      | (go_at_call 29; (with_reducible refine (identity_LinkedB A2 c2 l.length l xb xa seq _ (HSQ1.out.next hb7) rfl (by omega) HSN.out (by omega) (by omega) HSQ.out HBA.out).mono ?_); rintro e w8 ⟨rfl, hb8⟩; obtain ⟨m0, mf0, mz0⟩ := keepB hb8 X kz0; obtain ⟨m1, mf1, mz1⟩ := keepB hb8 (X + 1) kz1; have hx8 := below_next hx7 hb8; have HS8 := Lib.hid ((HSQ1.out.next hb7).next hb8)))
    simp only [k0, k1] at m0 m1
    have e0 := (m0 0).trans p0
    have e1 := (m0 1).trans p1
    have e2 := (m0 2).trans p2
    have e3 := (m0 3).trans p3
    have e4 := (m1 0).trans q0
    have e5 := (m1 1).trans q1
    have e6 := (m1 2).trans q2
    have e7 := (m1 3).trans q3
    clear m0 m1 k0 k1 p0 p1 p2 p3 q0 q1 q2 q3 kf0 kf1 mf0 mf1 hb7 hb8 hx7 HSQ1 hbq hbW hza hzb kz0 kz1
    refine wp_region_held_drew (S := (fun w' => w'.cell? ⟨X, 0, none⟩ = some (.string xa.ns) ∧ w'.cell? ⟨X, 1, none⟩ = some (.int .i64 xa.val.kind) ∧ w'.cell? ⟨X, 2, none⟩ = some (.int .i64 xa.val.num) ∧ w'.cell? ⟨X, 3, none⟩ = some (.string xa.val.text) ∧ w'.cell? ⟨X + 1, 0, none⟩ = some (.string xb.ns) ∧ w'.cell? ⟨X + 1, 1, none⟩ = some (.int .i64 xb.val.kind) ∧ w'.cell? ⟨X + 1, 2, none⟩ = some (.int .i64 xb.val.num) ∧ w'.cell? ⟨X + 1, 3, none⟩ = some (.string xb.val.text))) (by kernel_rfl) ⟨e0, e1, e2, e3, e4, e5, e6, e7⟩ (fun hHeld => ?_)
    refine wpAnyH_take (i := 0) (v := ?_) rfl (by kernel_rfl) (by kernel_rfl) (by kernel_rfl) (fun _ _ _ h => h) (Or.inl ⟨by kernel_rfl, ?_⟩) hHeld ?_
    rotate_left
    · (intro w hSw; (try dsimp only at hSw); go_simp; first | done | with_reducible rfl)
    (try simp only [Act.put, List.getElem_toArray, List.getElem_cons_zero, List.setIfInBounds_toArray, List.set_cons_zero, List.set_cons_succ])
    refine wpAnyH_take (i := 1) (v := ?_) rfl (by kernel_rfl) (by kernel_rfl) (by kernel_rfl) (fun _ _ _ h => h) (Or.inl ⟨by kernel_rfl, ?_⟩) hHeld ?_
    rotate_left
    · (intro w hSw; (try dsimp only at hSw); go_simp; first | done | with_reducible rfl)
    (try simp only [Act.put, List.getElem_toArray, List.getElem_cons_zero, List.getElem_cons_succ, List.setIfInBounds_toArray, List.set_cons_zero, List.set_cons_succ])
    refine wpAnyH_take (i := 2) (v := ?_) rfl (by kernel_rfl) (by kernel_rfl) (by kernel_rfl) (fun _ _ _ h => h) (Or.inl ⟨by kernel_rfl, ?_⟩) hHeld ?_
    rotate_left
    · (intro w hSw; (try dsimp only at hSw); go_simp; first | done | with_reducible rfl)
    (try simp only [Act.put, List.getElem_toArray, List.getElem_cons_zero, List.getElem_cons_succ, List.setIfInBounds_toArray, List.set_cons_zero, List.set_cons_succ])
    refine wpAnyH_take (i := 3) (v := ?_) rfl (by kernel_rfl) (by kernel_rfl) (by kernel_rfl) (fun _ _ _ h => h) (Or.inl ⟨by kernel_rfl, ?_⟩) hHeld ?_
    rotate_left
    · (intro w hSw; (try dsimp only at hSw); go_simp; first | done | with_reducible rfl)
    (try simp only [Act.put, List.getElem_toArray, List.getElem_cons_zero, List.getElem_cons_succ, List.setIfInBounds_toArray, List.set_cons_zero, List.set_cons_succ])
    refine wpAnyH_take (i := 5) (v := ?_) rfl (by kernel_rfl) (by kernel_rfl) (by kernel_rfl) (fun _ _ _ h => h) (Or.inl ⟨by kernel_rfl, ?_⟩) hHeld ?_
    rotate_left
    · (intro w hSw; (try dsimp only at hSw); go_simp; first | done | with_reducible rfl)
    (try simp only [Act.put, List.getElem_toArray, List.getElem_cons_zero, List.getElem_cons_succ, List.setIfInBounds_toArray, List.set_cons_zero, List.set_cons_succ])
    refine wpAnyH_ready (rs := [4]) (by kernel_rfl) (by simp) ?_
    refine AllReadyH.cons rfl (fun K hK => ?_) AllReadyH.nil
    go_simp
    (go_at_call 13; (with_reducible refine (identity_At A2 c2 l xa seq _ ?_ (by omega) HSN.out (by omega) HSQ.out).mono ?_); (exact HS8.out.next (by repeat (first | with_reducible exact Below.refl _ _ | with_reducible assumption | (with_reducible refine Below.setCell ?_ ?_ _; rotate_left; focus (first | exact Nat.le_refl _ | exact Nat.le_add_right _ _ | (simp; done) | (simp; omega) | omega)) | (with_reducible refine Below.alloc ?_ ?_ _; rotate_left; focus (first | exact Nat.le_refl _ | exact Nat.le_add_right _ _ | (simp; done) | (simp; omega) | omega)) | with_reducible refine Below.drew ?_ | with_reducible refine below_drewN ?_ _ | (with_reducible refine below_nextN ?_ (by with_reducible assumption) ?_; rotate_left; focus (first | exact Nat.le_refl _ | exact Nat.le_add_right _ _ | (simp; done) | (simp; omega) | omega))))); rintro e wa ⟨⟨oa, Aa, ca, hoa, rfl, hca, hsa⟩, hba⟩; have hxa : Below w8.heap.size w8 wa := (by repeat (first | with_reducible exact Below.refl _ _ | with_reducible assumption | (with_reducible refine Below.setCell ?_ ?_ _; rotate_left; focus (first | exact Nat.le_refl _ | exact Nat.le_add_right _ _ | (simp; done) | (simp; omega) | omega)) | (with_reducible refine Below.alloc ?_ ?_ _; rotate_left; focus (first | exact Nat.le_refl _ | exact Nat.le_add_right _ _ | (simp; done) | (simp; omega) | omega)) | with_reducible refine Below.drew ?_ | with_reducible refine below_drewN ?_ _ | (with_reducible refine below_nextN ?_ (by with_reducible assumption) ?_; rotate_left; focus (first | exact Nat.le_refl _ | exact Nat.le_add_right _ _ | (simp; done) | (simp; omega) | omega)))); have hxaz := hxa.size; have HOA := Lib.hid hoa; obtain ⟨ka, _, kaz⟩ := keepB hxa X mz0; obtain ⟨kb, _, kbz⟩ := keepB hxa (X + 1) mz1; clear hoa)
    go_wp2_with fail
    refine hK.out _ _ ⟨?_, ?_, ?_, ?_, ?_, ?_, ?_, ?_⟩ (fun hHeld => ?_)
    iterate 8 (simp only [*])
    clear hK K
    (try simp only [Act.put, List.getElem_toArray, List.getElem_cons_zero, List.getElem_cons_succ, List.setIfInBounds_toArray, List.set_cons_zero, List.set_cons_succ])
    refine wpAnyH_ready (rs := [6]) (by kernel_rfl) (by simp) ?_
    refine AllReadyH.cons rfl (fun K hK => ?_) AllReadyH.nil
    go_simp
    (go_at_call 21; (with_reducible refine (ref16_HasId (A := Aa) (c := ca) (l := oa) xb ?_ (at_len (by omega) HOA.out) (has_linked HV.out HVA.out HVB.out HOA.out HAB.out)).mono ?_); (exact hsa); rintro e wh ⟨rfl, hbh⟩; have hxh : Below w8.heap.size w8 wh := (by repeat (first | with_reducible exact Below.refl _ _ | with_reducible assumption | (with_reducible refine Below.setCell ?_ ?_ _; rotate_left; focus (first | exact Nat.le_refl _ | exact Nat.le_add_right _ _ | (simp; done) | (simp; omega) | omega)) | (with_reducible refine Below.alloc ?_ ?_ _; rotate_left; focus (first | exact Nat.le_refl _ | exact Nat.le_add_right _ _ | (simp; done) | (simp; omega) | omega)) | with_reducible refine Below.drew ?_ | with_reducible refine below_drewN ?_ _ | (with_reducible refine below_nextN ?_ (by with_reducible assumption) ?_; rotate_left; focus (first | exact Nat.le_refl _ | exact Nat.le_add_right _ _ | (simp; done) | (simp; omega) | omega)))); have hxhz := hxh.size; obtain ⟨kh, _, khz⟩ := keepB hxh X mz0; obtain ⟨ki, _, kiz⟩ := keepB hxh (X + 1) mz1)
    go_wp2_with fail
    refine hK.out _ _ ⟨?_, ?_, ?_, ?_, ?_, ?_, ?_, ?_⟩ (fun hHeld => ?_)
    iterate 8 (simp only [*])
    clear hK K
    (try simp only [Act.put, List.getElem_toArray, List.getElem_cons_zero, List.getElem_cons_succ, List.setIfInBounds_toArray, List.set_cons_zero, List.set_cons_succ])
    refine wpAnyH_take (i := 7) (v := ?_) rfl (by kernel_rfl) (by kernel_rfl) (by kernel_rfl) (fun _ _ _ h => h) (Or.inl ⟨by kernel_rfl, ?_⟩) hHeld ?_
    rotate_left
    · (intro w hSw; (try dsimp only at hSw); go_simp; first | done | with_reducible rfl)
    (try simp only [Act.put, List.getElem_toArray, List.getElem_cons_zero, List.getElem_cons_succ, List.setIfInBounds_toArray, List.set_cons_zero, List.set_cons_succ])
    refine wpAnyH_take (i := 8) (v := ?_) rfl (by kernel_rfl) (by kernel_rfl) (by kernel_rfl) (fun _ _ _ h => h) (Or.inl ⟨by kernel_rfl, ?_⟩) hHeld ?_
    rotate_left
    · (intro w hSw; (try dsimp only at hSw); go_simp; first | done | with_reducible rfl)
    (try simp only [Act.put, List.getElem_toArray, List.getElem_cons_zero, List.getElem_cons_succ, List.setIfInBounds_toArray, List.set_cons_zero, List.set_cons_succ])
    refine wpAnyH_take (i := 9) (v := ?_) rfl (by kernel_rfl) (by kernel_rfl) (by kernel_rfl) (fun _ _ _ h => h) (Or.inl ⟨by kernel_rfl, ?_⟩) hHeld ?_
    rotate_left
    · (intro w hSw; (try dsimp only at hSw); go_simp; first | done | with_reducible rfl)
    (try simp only [Act.put, List.getElem_toArray, List.getElem_cons_zero, List.getElem_cons_succ, List.setIfInBounds_toArray, List.set_cons_zero, List.set_cons_succ])
    refine wpAnyH_take (i := 10) (v := ?_) rfl (by kernel_rfl) (by kernel_rfl) (by kernel_rfl) (fun _ _ _ h => h) (Or.inl ⟨by kernel_rfl, ?_⟩) hHeld ?_
    rotate_left
    · (intro w hSw; (try dsimp only at hSw); go_simp; first | done | with_reducible rfl)
    (try simp only [Act.put, List.getElem_toArray, List.getElem_cons_zero, List.getElem_cons_succ, List.setIfInBounds_toArray, List.set_cons_zero, List.set_cons_succ])
    refine wpAnyH_take (i := 11) (v := ?_) rfl (by kernel_rfl) (by kernel_rfl) (by kernel_rfl) (fun _ _ _ h => h) (Or.inl ⟨by kernel_rfl, ?_⟩) hHeld ?_
    rotate_left
    · (intro w hSw; (try dsimp only at hSw); go_simp; first | done | with_reducible rfl)
    (try simp only [Act.put, List.getElem_toArray, List.getElem_cons_zero, List.getElem_cons_succ, List.setIfInBounds_toArray, List.set_cons_zero, List.set_cons_succ])
    refine wpAnyH_take (i := 12) (v := undef) rfl (by kernel_rfl) (by kernel_rfl) (by kernel_rfl) (fun _ _ _ h => h) (Or.inr ⟨by kernel_rfl, rfl⟩) hHeld ?_
    (try simp only [Act.put, List.getElem_toArray, List.getElem_cons_zero, List.getElem_cons_succ, List.setIfInBounds_toArray, List.set_cons_zero, List.set_cons_succ])
    refine wpAnyH_take (i := 13) (v := undef) rfl (by kernel_rfl) (by kernel_rfl) (by kernel_rfl) (fun _ _ _ h => h) (Or.inr ⟨by kernel_rfl, rfl⟩) hHeld ?_
    (try simp only [Act.put, List.getElem_toArray, List.getElem_cons_zero, List.getElem_cons_succ, List.setIfInBounds_toArray, List.set_cons_zero, List.set_cons_succ])
    refine wpAnyH_take (i := 14) (v := undef) rfl (by kernel_rfl) (by kernel_rfl) (by kernel_rfl) (fun _ _ _ h => h) (Or.inr ⟨by kernel_rfl, rfl⟩) hHeld ?_
    (try simp only [Act.put, List.getElem_toArray, List.getElem_cons_zero, List.getElem_cons_succ, List.setIfInBounds_toArray, List.set_cons_zero, List.set_cons_succ])
    refine wpAnyH_take (i := 16) (v := undef) rfl (by kernel_rfl) (by kernel_rfl) (by kernel_rfl) (fun _ _ _ h => h) (Or.inr ⟨by kernel_rfl, rfl⟩) hHeld ?_
    (try simp only [Act.put, List.getElem_toArray, List.getElem_cons_zero, List.getElem_cons_succ, List.setIfInBounds_toArray, List.set_cons_zero, List.set_cons_succ])
    refine wpAnyH_take (i := 17) (v := undef) rfl (by kernel_rfl) (by kernel_rfl) (by kernel_rfl) (fun _ _ _ h => h) (Or.inr ⟨by kernel_rfl, rfl⟩) hHeld ?_
    (try simp only [Act.put, List.getElem_toArray, List.getElem_cons_zero, List.getElem_cons_succ, List.setIfInBounds_toArray, List.set_cons_zero, List.set_cons_succ])
    refine wpAnyH_take (i := 18) (v := undef) rfl (by kernel_rfl) (by kernel_rfl) (by kernel_rfl) (fun _ _ _ h => h) (Or.inr ⟨by kernel_rfl, rfl⟩) hHeld ?_
    (try simp only [Act.put, List.getElem_toArray, List.getElem_cons_zero, List.getElem_cons_succ, List.setIfInBounds_toArray, List.set_cons_zero, List.set_cons_succ])
    refine wpAnyH_ready (rs := [15]) (by kernel_rfl) (by simp) ?_
    refine AllReadyH.cons rfl (fun K hK => ?_) AllReadyH.nil
    rw [if_neg (Bool.eq_false_iff.1 (by kernel_rfl))]
    refine hK.out _ _ hHeld (fun hHeld => ?_)
    clear hK K
    (try simp only [Act.put, List.getElem_toArray, List.getElem_cons_zero, List.getElem_cons_succ, List.setIfInBounds_toArray, List.set_cons_zero, List.set_cons_succ])
    refine wpAnyH_ready (rs := [19]) (by kernel_rfl) (by simp) ?_
    refine AllReadyH.cons rfl (fun K hK => ?_) AllReadyH.nil
    rw [if_neg (Bool.eq_false_iff.1 (by kernel_rfl))]
    refine hK.out _ _ hHeld (fun hHeld => ?_)
    clear hK K
    (try simp only [Act.put, List.getElem_toArray, List.getElem_cons_zero, List.getElem_cons_succ, List.setIfInBounds_toArray, List.set_cons_zero, List.set_cons_succ])
    refine wpAnyH_ready (rs := [20]) (by kernel_rfl) (by simp) ?_
    refine AllReadyH.cons rfl (fun K hK => ?_) AllReadyH.nil
    rw [if_neg (Bool.eq_false_iff.1 (by kernel_rfl))]
    refine hK.out _ _ hHeld (fun hHeld => ?_)
    clear hK K
    (try simp only [Act.put, List.getElem_toArray, List.getElem_cons_zero, List.getElem_cons_succ, List.setIfInBounds_toArray, List.set_cons_zero, List.set_cons_succ])
    refine wpAnyH_take (i := 21) (v := ?_) rfl (by kernel_rfl) (by kernel_rfl) (by kernel_rfl) (fun _ _ _ h => h) (Or.inl ⟨by kernel_rfl, ?_⟩) hHeld ?_
    rotate_left
    · (intro w hSw; (try dsimp only at hSw); go_simp; first | done | with_reducible rfl)
    (try simp only [Act.put, List.getElem_toArray, List.getElem_cons_zero, List.getElem_cons_succ, List.setIfInBounds_toArray, List.set_cons_zero, List.set_cons_succ])
    refine wpAnyH_take (i := 22) (v := ?_) rfl (by kernel_rfl) (by kernel_rfl) (by kernel_rfl) (fun _ _ _ h => h) (Or.inl ⟨by kernel_rfl, ?_⟩) hHeld ?_
    rotate_left
    · (intro w hSw; (try dsimp only at hSw); go_simp; first | done | with_reducible rfl)
    (try simp only [Act.put, List.getElem_toArray, List.getElem_cons_zero, List.getElem_cons_succ, List.setIfInBounds_toArray, List.set_cons_zero, List.set_cons_succ])
    refine wpAnyH_take (i := 23) (v := ?_) rfl (by kernel_rfl) (by kernel_rfl) (by kernel_rfl) (fun _ _ _ h => h) (Or.inl ⟨by kernel_rfl, ?_⟩) hHeld ?_
    rotate_left
    · (intro w hSw; (try dsimp only at hSw); go_simp; first | done | with_reducible rfl)
    (try simp only [Act.put, List.getElem_toArray, List.getElem_cons_zero, List.getElem_cons_succ, List.setIfInBounds_toArray, List.set_cons_zero, List.set_cons_succ])
    refine wpAnyH_ready (rs := [24]) (by kernel_rfl) (by simp) ?_
    refine AllReadyH.cons rfl (fun K hK => ?_) AllReadyH.nil
    go_simp
    (go_at_call 14; refine (awake_any _).mono ?_; rintro e wz ⟨rfl, hbz⟩; have hxz : Below w8.heap.size w8 wz := (by repeat (first | with_reducible exact Below.refl _ _ | with_reducible assumption | (with_reducible refine Below.setCell ?_ ?_ _; rotate_left; focus (first | exact Nat.le_refl _ | exact Nat.le_add_right _ _ | (simp; done) | (simp; omega) | omega)) | (with_reducible refine Below.alloc ?_ ?_ _; rotate_left; focus (first | exact Nat.le_refl _ | exact Nat.le_add_right _ _ | (simp; done) | (simp; omega) | omega)) | with_reducible refine Below.drew ?_ | with_reducible refine below_drewN ?_ _ | (with_reducible refine below_nextN ?_ (by with_reducible assumption) ?_; rotate_left; focus (first | exact Nat.le_refl _ | exact Nat.le_add_right _ _ | (simp; done) | (simp; omega) | omega)))); obtain ⟨ky, _, kyz⟩ := keepB hxz X mz0; obtain ⟨kx, _, kxz⟩ := keepB hxz (X + 1) mz1)
    go_wp2_with fail
    refine hK.out _ _ ⟨?_, ?_, ?_, ?_, ?_, ?_, ?_, ?_⟩ (fun hHeld => ?_)
    iterate 8 (simp only [*])
    clear hK K
    (try simp only [Act.put, List.getElem_toArray, List.getElem_cons_zero, List.getElem_cons_succ, List.setIfInBounds_toArray, List.set_cons_zero, List.set_cons_succ])
    refine wpAnyH_take (i := 25) (v := ?_) rfl (by kernel_rfl) (by kernel_rfl) (by kernel_rfl) (fun _ _ _ h => h) (Or.inl ⟨by kernel_rfl, ?_⟩) hHeld ?_
    rotate_left
    · (intro w hSw; (try dsimp only at hSw); go_simp; first | done | with_reducible rfl)
    (try simp only [Act.put, List.getElem_toArray, List.getElem_cons_zero, List.getElem_cons_succ, List.setIfInBounds_toArray, List.set_cons_zero, List.set_cons_succ])
    refine wpAnyH_take (i := 26) (v := ?_) rfl (by kernel_rfl) (by kernel_rfl) (by kernel_rfl) (fun _ _ _ h => h) (Or.inl ⟨by kernel_rfl, ?_⟩) hHeld ?_
    rotate_left
    · (intro w hSw; (try dsimp only at hSw); go_simp; first | done | with_reducible rfl)
    (try simp only [Act.put, List.getElem_toArray, List.getElem_cons_zero, List.getElem_cons_succ, List.setIfInBounds_toArray, List.set_cons_zero, List.set_cons_succ])
    refine wpAnyH_done (by kernel_rfl) ?_ _
    clear hHeld ka kb kh ki ky kx e0 e1 e2 e3 e4 e5 e6 e7 hsa hba hbh hbz hxa hxh
    go_wp2
    go_ret
    exact ⟨rfl, below_next hx8 hxz⟩
  · cases rbc
    · go_wp2_with (first
        | (go_at_call 29; (with_reducible refine (identity_LinkedB A2 c2 l.length l xa xa seq _ (HSQ1.out) rfl (by omega) HSN.out (by omega) (by omega) HSQ.out HAA.out).mono ?_); rintro e w7 ⟨rfl, hb7⟩; obtain ⟨k0, kf0, kz0⟩ := keepB hb7 X hza; obtain ⟨k1, kf1, kz1⟩ := keepB hb7 (X + 1) hzb; have hx7 := below_next hbq hb7)
        | (go_at_call 29; (with_reducible refine (identity_LinkedB A2 c2 l.length l xb xa seq _ (HSQ1.out.next hb7) rfl (by omega) HSN.out (by omega) (by omega) HSQ.out HBA.out).mono ?_); rintro e w8 ⟨rfl, hb8⟩; obtain ⟨m0, mf0, mz0⟩ := keepB hb8 X kz0; obtain ⟨m1, mf1, mz1⟩ := keepB hb8 (X + 1) kz1; have hx8 := below_next hx7 hb8; have HS8 := Lib.hid ((HSQ1.out.next hb7).next hb8)))
      simp only [k0, k1] at m0 m1
      have e0 := (m0 0).trans p0
      have e1 := (m0 1).trans p1
      have e2 := (m0 2).trans p2
      have e3 := (m0 3).trans p3
      have e4 := (m1 0).trans q0
      have e5 := (m1 1).trans q1
      have e6 := (m1 2).trans q2
      have e7 := (m1 3).trans q3
      clear m0 m1 k0 k1 p0 p1 p2 p3 q0 q1 q2 q3 kf0 kf1 mf0 mf1 hb7 hb8 hx7 HSQ1 hbq hbW hza hzb kz0 kz1
      refine wp_region_held_drew (S := (fun w' => w'.cell? ⟨X, 0, none⟩ = some (.string xa.ns) ∧ w'.cell? ⟨X, 1, none⟩ = some (.int .i64 xa.val.kind) ∧ w'.cell? ⟨X, 2, none⟩ = some (.int .i64 xa.val.num) ∧ w'.cell? ⟨X, 3, none⟩ = some (.string xa.val.text) ∧ w'.cell? ⟨X + 1, 0, none⟩ = some (.string xb.ns) ∧ w'.cell? ⟨X + 1, 1, none⟩ = some (.int .i64 xb.val.kind) ∧ w'.cell? ⟨X + 1, 2, none⟩ = some (.int .i64 xb.val.num) ∧ w'.cell? ⟨X + 1, 3, none⟩ = some (.string xb.val.text))) (by kernel_rfl) ⟨e0, e1, e2, e3, e4, e5, e6, e7⟩ (fun hHeld => ?_)
      refine wpAnyH_take (i := 0) (v := ?_) rfl (by kernel_rfl) (by kernel_rfl) (by kernel_rfl) (fun _ _ _ h => h) (Or.inl ⟨by kernel_rfl, ?_⟩) hHeld ?_
      rotate_left
      · (intro w hSw; (try dsimp only at hSw); go_simp; first | done | with_reducible rfl)
      (try simp only [Act.put, List.getElem_toArray, List.getElem_cons_zero, List.setIfInBounds_toArray, List.set_cons_zero, List.set_cons_succ])
      refine wpAnyH_take (i := 1) (v := ?_) rfl (by kernel_rfl) (by kernel_rfl) (by kernel_rfl) (fun _ _ _ h => h) (Or.inl ⟨by kernel_rfl, ?_⟩) hHeld ?_
      rotate_left
      · (intro w hSw; (try dsimp only at hSw); go_simp; first | done | with_reducible rfl)
      (try simp only [Act.put, List.getElem_toArray, List.getElem_cons_zero, List.getElem_cons_succ, List.setIfInBounds_toArray, List.set_cons_zero, List.set_cons_succ])
      refine wpAnyH_take (i := 2) (v := ?_) rfl (by kernel_rfl) (by kernel_rfl) (by kernel_rfl) (fun _ _ _ h => h) (Or.inl ⟨by kernel_rfl, ?_⟩) hHeld ?_
      rotate_left
      · (intro w hSw; (try dsimp only at hSw); go_simp; first | done | with_reducible rfl)
      (try simp only [Act.put, List.getElem_toArray, List.getElem_cons_zero, List.getElem_cons_succ, List.setIfInBounds_toArray, List.set_cons_zero, List.set_cons_succ])
      refine wpAnyH_take (i := 3) (v := ?_) rfl (by kernel_rfl) (by kernel_rfl) (by kernel_rfl) (fun _ _ _ h => h) (Or.inl ⟨by kernel_rfl, ?_⟩) hHeld ?_
      rotate_left
      · (intro w hSw; (try dsimp only at hSw); go_simp; first | done | with_reducible rfl)
      (try simp only [Act.put, List.getElem_toArray, List.getElem_cons_zero, List.getElem_cons_succ, List.setIfInBounds_toArray, List.set_cons_zero, List.set_cons_succ])
      refine wpAnyH_take (i := 5) (v := ?_) rfl (by kernel_rfl) (by kernel_rfl) (by kernel_rfl) (fun _ _ _ h => h) (Or.inl ⟨by kernel_rfl, ?_⟩) hHeld ?_
      rotate_left
      · (intro w hSw; (try dsimp only at hSw); go_simp; first | done | with_reducible rfl)
      (try simp only [Act.put, List.getElem_toArray, List.getElem_cons_zero, List.getElem_cons_succ, List.setIfInBounds_toArray, List.set_cons_zero, List.set_cons_succ])
      refine wpAnyH_ready (rs := [4]) (by kernel_rfl) (by simp) ?_
      refine AllReadyH.cons rfl (fun K hK => ?_) AllReadyH.nil
      go_simp
      (go_at_call 13; (with_reducible refine (identity_At A2 c2 l xa seq _ ?_ (by omega) HSN.out (by omega) HSQ.out).mono ?_); (exact HS8.out.next (by repeat (first | with_reducible exact Below.refl _ _ | with_reducible assumption | (with_reducible refine Below.setCell ?_ ?_ _; rotate_left; focus (first | exact Nat.le_refl _ | exact Nat.le_add_right _ _ | (simp; done) | (simp; omega) | omega)) | (with_reducible refine Below.alloc ?_ ?_ _; rotate_left; focus (first | exact Nat.le_refl _ | exact Nat.le_add_right _ _ | (simp; done) | (simp; omega) | omega)) | with_reducible refine Below.drew ?_ | with_reducible refine below_drewN ?_ _ | (with_reducible refine below_nextN ?_ (by with_reducible assumption) ?_; rotate_left; focus (first | exact Nat.le_refl _ | exact Nat.le_add_right _ _ | (simp; done) | (simp; omega) | omega))))); rintro e wa ⟨⟨oa, Aa, ca, hoa, rfl, hca, hsa⟩, hba⟩; have hxa : Below w8.heap.size w8 wa := (by repeat (first | with_reducible exact Below.refl _ _ | with_reducible assumption | (with_reducible refine Below.setCell ?_ ?_ _; rotate_left; focus (first | exact Nat.le_refl _ | exact Nat.le_add_right _ _ | (simp; done) | (simp; omega) | omega)) | (with_reducible refine Below.alloc ?_ ?_ _; rotate_left; focus (first | exact Nat.le_refl _ | exact Nat.le_add_right _ _ | (simp; done) | (simp; omega) | omega)) | with_reducible refine Below.drew ?_ | with_reducible refine below_drewN ?_ _ | (with_reducible refine below_nextN ?_ (by with_reducible assumption) ?_; rotate_left; focus (first | exact Nat.le_refl _ | exact Nat.le_add_right _ _ | (simp; done) | (simp; omega) | omega)))); have hxaz := hxa.size; have HOA := Lib.hid hoa; obtain ⟨ka, _, kaz⟩ := keepB hxa X mz0; obtain ⟨kb, _, kbz⟩ := keepB hxa (X + 1) mz1; clear hoa)
      go_wp2_with fail
      refine hK.out _ _ ⟨?_, ?_, ?_, ?_, ?_, ?_, ?_, ?_⟩ (fun hHeld => ?_)
      iterate 8 (simp only [*])
      clear hK K
      (try simp only [Act.put, List.getElem_toArray, List.getElem_cons_zero, List.getElem_cons_succ, List.setIfInBounds_toArray, List.set_cons_zero, List.set_cons_succ])
      refine wpAnyH_ready (rs := [6]) (by kernel_rfl) (by simp) ?_
      refine AllReadyH.cons rfl (fun K hK => ?_) AllReadyH.nil
      go_simp
      (go_at_call 21; (with_reducible refine (ref16_HasId (A := Aa) (c := ca) (l := oa) xb ?_ (at_len (by omega) HOA.out) (has_linked HV.out HVA.out HVB.out HOA.out HAB.out)).mono ?_); (exact hsa); rintro e wh ⟨rfl, hbh⟩; have hxh : Below w8.heap.size w8 wh := (by repeat (first | with_reducible exact Below.refl _ _ | with_reducible assumption | (with_reducible refine Below.setCell ?_ ?_ _; rotate_left; focus (first | exact Nat.le_refl _ | exact Nat.le_add_right _ _ | (simp; done) | (simp; omega) | omega)) | (with_reducible refine Below.alloc ?_ ?_ _; rotate_left; focus (first | exact Nat.le_refl _ | exact Nat.le_add_right _ _ | (simp; done) | (simp; omega) | omega)) | with_reducible refine Below.drew ?_ | with_reducible refine below_drewN ?_ _ | (with_reducible refine below_nextN ?_ (by with_reducible assumption) ?_; rotate_left; focus (first | exact Nat.le_refl _ | exact Nat.le_add_right _ _ | (simp; done) | (simp; omega) | omega)))); have hxhz := hxh.size; obtain ⟨kh, _, khz⟩ := keepB hxh X mz0; obtain ⟨ki, _, kiz⟩ := keepB hxh (X + 1) mz1)
      go_wp2_with fail
      refine hK.out _ _ ⟨?_, ?_, ?_, ?_, ?_, ?_, ?_, ?_⟩ (fun hHeld => ?_)
      iterate 8 (simp only [*])
      clear hK K
      (try simp only [Act.put, List.getElem_toArray, List.getElem_cons_zero, List.getElem_cons_succ, List.setIfInBounds_toArray, List.set_cons_zero, List.set_cons_succ])
      refine wpAnyH_take (i := 7) (v := ?_) rfl (by kernel_rfl) (by kernel_rfl) (by kernel_rfl) (fun _ _ _ h => h) (Or.inl ⟨by kernel_rfl, ?_⟩) hHeld ?_
      rotate_left
      · (intro w hSw; (try dsimp only at hSw); go_simp; first | done | with_reducible rfl)
      (try simp only [Act.put, List.getElem_toArray, List.getElem_cons_zero, List.getElem_cons_succ, List.setIfInBounds_toArray, List.set_cons_zero, List.set_cons_succ])
      refine wpAnyH_take (i := 8) (v := ?_) rfl (by kernel_rfl) (by kernel_rfl) (by kernel_rfl) (fun _ _ _ h => h) (Or.inl ⟨by kernel_rfl, ?_⟩) hHeld ?_
      rotate_left
      · (intro w hSw; (try dsimp only at hSw); go_simp; first | done | with_reducible rfl)
      (try simp only [Act.put, List.getElem_toArray, List.getElem_cons_zero, List.getElem_cons_succ, List.setIfInBounds_toArray, List.set_cons_zero, List.set_cons_succ])
      refine wpAnyH_take (i := 9) (v := ?_) rfl (by kernel_rfl) (by kernel_rfl) (by kernel_rfl) (fun _ _ _ h => h) (Or.inl ⟨by kernel_rfl, ?_⟩) hHeld ?_
      rotate_left
      · (intro w hSw; (try dsimp only at hSw); go_simp; first | done | with_reducible rfl)
      (try simp only [Act.put, List.getElem_toArray, List.getElem_cons_zero, List.getElem_cons_succ, List.setIfInBounds_toArray, List.set_cons_zero, List.set_cons_succ])
      refine wpAnyH_take (i := 10) (v := ?_) rfl (by kernel_rfl) (by kernel_rfl) (by kernel_rfl) (fun _ _ _ h => h) (Or.inl ⟨by kernel_rfl, ?_⟩) hHeld ?_
      rotate_left
      · (intro w hSw; (try dsimp only at hSw); go_simp; first | done | with_reducible rfl)
      (try simp only [Act.put, List.getElem_toArray, List.getElem_cons_zero, List.getElem_cons_succ, List.setIfInBounds_toArray, List.set_cons_zero, List.set_cons_succ])
      refine wpAnyH_take (i := 11) (v := ?_) rfl (by kernel_rfl) (by kernel_rfl) (by kernel_rfl) (fun _ _ _ h => h) (Or.inl ⟨by kernel_rfl, ?_⟩) hHeld ?_
      rotate_left
      · (intro w hSw; (try dsimp only at hSw); go_simp; first | done | with_reducible rfl)
      (try simp only [Act.put, List.getElem_toArray, List.getElem_cons_zero, List.getElem_cons_succ, List.setIfInBounds_toArray, List.set_cons_zero, List.set_cons_succ])
      refine wpAnyH_take (i := 12) (v := ?_) rfl (by kernel_rfl) (by kernel_rfl) (by kernel_rfl) (fun _ _ _ h => h) (Or.inl ⟨by kernel_rfl, ?_⟩) hHeld ?_
      rotate_left
      · (intro w hSw; (try dsimp only at hSw); go_simp; first | done | with_reducible rfl)
      (try simp only [Act.put, List.getElem_toArray, List.getElem_cons_zero, List.getElem_cons_succ, List.setIfInBounds_toArray, List.set_cons_zero, List.set_cons_succ])
      refine wpAnyH_take (i := 13) (v := ?_) rfl (by kernel_rfl) (by kernel_rfl) (by kernel_rfl) (fun _ _ _ h => h) (Or.inl ⟨by kernel_rfl, ?_⟩) hHeld ?_
      rotate_left
      · (intro w hSw; (try dsimp only at hSw); go_simp; first | done | with_reducible rfl)
      (try simp only [Act.put, List.getElem_toArray, List.getElem_cons_zero, List.getElem_cons_succ, List.setIfInBounds_toArray, List.set_cons_zero, List.set_cons_succ])
      refine wpAnyH_take (i := 14) (v := ?_) rfl (by kernel_rfl) (by kernel_rfl) (by kernel_rfl) (fun _ _ _ h => h) (Or.inl ⟨by kernel_rfl, ?_⟩) hHeld ?_
      rotate_left
      · (intro w hSw; (try dsimp only at hSw); go_simp; first | done | with_reducible rfl)
      (try simp only [Act.put, List.getElem_toArray, List.getElem_cons_zero, List.getElem_cons_succ, List.setIfInBounds_toArray, List.set_cons_zero, List.set_cons_succ])
      refine wpAnyH_take (i := 16) (v := ?_) rfl (by kernel_rfl) (by kernel_rfl) (by kernel_rfl) (fun _ _ _ h => h) (Or.inl ⟨by kernel_rfl, ?_⟩) hHeld ?_
      rotate_left
      · (intro w hSw; (try dsimp only at hSw); go_simp; first | done | with_reducible rfl)
      (try simp only [Act.put, List.getElem_toArray, List.getElem_cons_zero, List.getElem_cons_succ, List.setIfInBounds_toArray, List.set_cons_zero, List.set_cons_succ])
      refine wpAnyH_take (i := 17) (v := ?_) rfl (by kernel_rfl) (by kernel_rfl) (by kernel_rfl) (fun _ _ _ h => h) (Or.inl ⟨by kernel_rfl, ?_⟩) hHeld ?_
      rotate_left
      · (intro w hSw; (try dsimp only at hSw); go_simp; first | done | with_reducible rfl)
      (try simp only [Act.put, List.getElem_toArray, List.getElem_cons_zero, List.getElem_cons_succ, List.setIfInBounds_toArray, List.set_cons_zero, List.set_cons_succ])
      refine wpAnyH_take (i := 18) (v := ?_) rfl (by kernel_rfl) (by kernel_rfl) (by kernel_rfl) (fun _ _ _ h => h) (Or.inl ⟨by kernel_rfl, ?_⟩) hHeld ?_
      rotate_left
      · (intro w hSw; (try dsimp only at hSw); go_simp; first | done | with_reducible rfl)
      (try simp only [Act.put, List.getElem_toArray, List.getElem_cons_zero, List.getElem_cons_succ, List.setIfInBounds_toArray, List.set_cons_zero, List.set_cons_succ])
      refine wpAnyH_ready (rs := [15]) (by kernel_rfl) (by simp) ?_
      refine AllReadyH.cons rfl (fun K hK => ?_) AllReadyH.nil
      go_simp
      (go_at_call 13; (with_reducible refine (identity_At A2 c2 l xa seq _ ?_ (by omega) HSN.out (by omega) HSQ.out).mono ?_); (exact HS8.out.next (by repeat (first | with_reducible exact Below.refl _ _ | with_reducible assumption | (with_reducible refine Below.setCell ?_ ?_ _; rotate_left; focus (first | exact Nat.le_refl _ | exact Nat.le_add_right _ _ | (simp; done) | (simp; omega) | omega)) | (with_reducible refine Below.alloc ?_ ?_ _; rotate_left; focus (first | exact Nat.le_refl _ | exact Nat.le_add_right _ _ | (simp; done) | (simp; omega) | omega)) | with_reducible refine Below.drew ?_ | with_reducible refine below_drewN ?_ _ | (with_reducible refine below_nextN ?_ (by with_reducible assumption) ?_; rotate_left; focus (first | exact Nat.le_refl _ | exact Nat.le_add_right _ _ | (simp; done) | (simp; omega) | omega))))); rintro e wc ⟨⟨oc, Ac, cc, hoc, rfl, hcc, hsc⟩, hbc⟩; have hxc : Below w8.heap.size w8 wc := (by repeat (first | with_reducible exact Below.refl _ _ | with_reducible assumption | (with_reducible refine Below.setCell ?_ ?_ _; rotate_left; focus (first | exact Nat.le_refl _ | exact Nat.le_add_right _ _ | (simp; done) | (simp; omega) | omega)) | (with_reducible refine Below.alloc ?_ ?_ _; rotate_left; focus (first | exact Nat.le_refl _ | exact Nat.le_add_right _ _ | (simp; done) | (simp; omega) | omega)) | with_reducible refine Below.drew ?_ | with_reducible refine below_drewN ?_ _ | (with_reducible refine below_nextN ?_ (by with_reducible assumption) ?_; rotate_left; focus (first | exact Nat.le_refl _ | exact Nat.le_add_right _ _ | (simp; done) | (simp; omega) | omega)))); have hxcz := hxc.size; have HOC := Lib.hid hoc; obtain ⟨kc, _, kcz⟩ := keepB hxc X mz0; obtain ⟨kd, _, kdz⟩ := keepB hxc (X + 1) mz1; clear hoc)
      go_wp2_with fail
      refine hK.out _ _ ⟨?_, ?_, ?_, ?_, ?_, ?_, ?_, ?_⟩ (fun hHeld => ?_)
      iterate 8 (simp only [*])
      clear hK K
      (try simp only [Act.put, List.getElem_toArray, List.getElem_cons_zero, List.getElem_cons_succ, List.setIfInBounds_toArray, List.set_cons_zero, List.set_cons_succ])
      refine wpAnyH_ready (rs := [19]) (by kernel_rfl) (by simp) ?_
      refine AllReadyH.cons rfl (fun K hK => ?_) AllReadyH.nil
      go_simp
      (go_at_call 13; (with_reducible refine (identity_At A2 c2 l xb seq _ ?_ (by omega) HSN.out (by omega) HSQ.out).mono ?_); (exact HS8.out.next (by repeat (first | with_reducible exact Below.refl _ _ | with_reducible assumption | (with_reducible refine Below.setCell ?_ ?_ _; rotate_left; focus (first | exact Nat.le_refl _ | exact Nat.le_add_right _ _ | (simp; done) | (simp; omega) | omega)) | (with_reducible refine Below.alloc ?_ ?_ _; rotate_left; focus (first | exact Nat.le_refl _ | exact Nat.le_add_right _ _ | (simp; done) | (simp; omega) | omega)) | with_reducible refine Below.drew ?_ | with_reducible refine below_drewN ?_ _ | (with_reducible refine below_nextN ?_ (by with_reducible assumption) ?_; rotate_left; focus (first | exact Nat.le_refl _ | exact Nat.le_add_right _ _ | (simp; done) | (simp; omega) | omega))))); rintro e wd ⟨⟨od, Ad, cd, hod, rfl, hcd, hsd⟩, hbd⟩; have hxd : Below w8.heap.size w8 wd := (by repeat (first | with_reducible exact Below.refl _ _ | with_reducible assumption | (with_reducible refine Below.setCell ?_ ?_ _; rotate_left; focus (first | exact Nat.le_refl _ | exact Nat.le_add_right _ _ | (simp; done) | (simp; omega) | omega)) | (with_reducible refine Below.alloc ?_ ?_ _; rotate_left; focus (first | exact Nat.le_refl _ | exact Nat.le_add_right _ _ | (simp; done) | (simp; omega) | omega)) | with_reducible refine Below.drew ?_ | with_reducible refine below_drewN ?_ _ | (with_reducible refine below_nextN ?_ (by with_reducible assumption) ?_; rotate_left; focus (first | exact Nat.le_refl _ | exact Nat.le_add_right _ _ | (simp; done) | (simp; omega) | omega)))); have hxdz := hxd.size; obtain rfl := at_same HV.out HVA.out HVB.out HAB.out HOC.out hod; obtain ⟨ke, _, kez⟩ := keepB hxd X mz0; obtain ⟨kf, _, kfz⟩ := keepB hxd (X + 1) mz1; clear hod; have HSC := Lib.hid (hsc.next hbd))
      go_wp2_with fail
      refine hK.out _ _ ⟨?_, ?_, ?_, ?_, ?_, ?_, ?_, ?_⟩ (fun hHeld => ?_)
      iterate 8 (simp only [*])
      clear hK K
      (try simp only [Act.put, List.getElem_toArray, List.getElem_cons_zero, List.getElem_cons_succ, List.setIfInBounds_toArray, List.set_cons_zero, List.set_cons_succ])
      refine wpAnyH_ready (rs := [20]) (by kernel_rfl) (by simp) ?_
      refine AllReadyH.cons rfl (fun K hK => ?_) AllReadyH.nil
      go_simp
      (go_at_call 22; (with_reducible refine (same_yes Ac Ad cc cd oc.length oc _ rfl HSC.out hsd (at_len (by omega) HOC.out)).mono ?_); rintro e ws ⟨rfl, hbs⟩; have hxs : Below w8.heap.size w8 ws := (by repeat (first | with_reducible exact Below.refl _ _ | with_reducible assumption | (with_reducible refine Below.setCell ?_ ?_ _; rotate_left; focus (first | exact Nat.le_refl _ | exact Nat.le_add_right _ _ | (simp; done) | (simp; omega) | omega)) | (with_reducible refine Below.alloc ?_ ?_ _; rotate_left; focus (first | exact Nat.le_refl _ | exact Nat.le_add_right _ _ | (simp; done) | (simp; omega) | omega)) | with_reducible refine Below.drew ?_ | with_reducible refine below_drewN ?_ _ | (with_reducible refine below_nextN ?_ (by with_reducible assumption) ?_; rotate_left; focus (first | exact Nat.le_refl _ | exact Nat.le_add_right _ _ | (simp; done) | (simp; omega) | omega)))); have hxsz := hxs.size; obtain ⟨kg, _, kgz⟩ := keepB hxs X mz0; obtain ⟨kk, _, kkz⟩ := keepB hxs (X + 1) mz1)
      go_wp2_with fail
      refine hK.out _ _ ⟨?_, ?_, ?_, ?_, ?_, ?_, ?_, ?_⟩ (fun hHeld => ?_)
      iterate 8 (simp only [*])
      clear hK K
      (try simp only [Act.put, List.getElem_toArray, List.getElem_cons_zero, List.getElem_cons_succ, List.setIfInBounds_toArray, List.set_cons_zero, List.set_cons_succ])
      refine wpAnyH_take (i := 21) (v := ?_) rfl (by kernel_rfl) (by kernel_rfl) (by kernel_rfl) (fun _ _ _ h => h) (Or.inl ⟨by kernel_rfl, ?_⟩) hHeld ?_
      rotate_left
      · (intro w hSw; (try dsimp only at hSw); go_simp; first | done | with_reducible rfl)
      (try simp only [Act.put, List.getElem_toArray, List.getElem_cons_zero, List.getElem_cons_succ, List.setIfInBounds_toArray, List.set_cons_zero, List.set_cons_succ])
      refine wpAnyH_take (i := 22) (v := ?_) rfl (by kernel_rfl) (by kernel_rfl) (by kernel_rfl) (fun _ _ _ h => h) (Or.inl ⟨by kernel_rfl, ?_⟩) hHeld ?_
      rotate_left
      · (intro w hSw; (try dsimp only at hSw); go_simp; first | done | with_reducible rfl)
      (try simp only [Act.put, List.getElem_toArray, List.getElem_cons_zero, List.getElem_cons_succ, List.setIfInBounds_toArray, List.set_cons_zero, List.set_cons_succ])
      refine wpAnyH_take (i := 23) (v := ?_) rfl (by kernel_rfl) (by kernel_rfl) (by kernel_rfl) (fun _ _ _ h => h) (Or.inl ⟨by kernel_rfl, ?_⟩) hHeld ?_
      rotate_left
      · (intro w hSw; (try dsimp only at hSw); go_simp; first | done | with_reducible rfl)
      (try simp only [Act.put, List.getElem_toArray, List.getElem_cons_zero, List.getElem_cons_succ, List.setIfInBounds_toArray, List.set_cons_zero, List.set_cons_succ])
      refine wpAnyH_ready (rs := [24]) (by kernel_rfl) (by simp) ?_
      refine AllReadyH.cons rfl (fun K hK => ?_) AllReadyH.nil
      go_simp
      (go_at_call 14; refine (awake_any _).mono ?_; rintro e wz ⟨rfl, hbz⟩; have hxz : Below w8.heap.size w8 wz := (by repeat (first | with_reducible exact Below.refl _ _ | with_reducible assumption | (with_reducible refine Below.setCell ?_ ?_ _; rotate_left; focus (first | exact Nat.le_refl _ | exact Nat.le_add_right _ _ | (simp; done) | (simp; omega) | omega)) | (with_reducible refine Below.alloc ?_ ?_ _; rotate_left; focus (first | exact Nat.le_refl _ | exact Nat.le_add_right _ _ | (simp; done) | (simp; omega) | omega)) | with_reducible refine Below.drew ?_ | with_reducible refine below_drewN ?_ _ | (with_reducible refine below_nextN ?_ (by with_reducible assumption) ?_; rotate_left; focus (first | exact Nat.le_refl _ | exact Nat.le_add_right _ _ | (simp; done) | (simp; omega) | omega)))); obtain ⟨ky, _, kyz⟩ := keepB hxz X mz0; obtain ⟨kx, _, kxz⟩ := keepB hxz (X + 1) mz1)
      go_wp2_with fail
      refine hK.out _ _ ⟨?_, ?_, ?_, ?_, ?_, ?_, ?_, ?_⟩ (fun hHeld => ?_)
      iterate 8 (simp only [*])
      clear hK K
      (try simp only [Act.put, List.getElem_toArray, List.getElem_cons_zero, List.getElem_cons_succ, List.setIfInBounds_toArray, List.set_cons_zero, List.set_cons_succ])
      refine wpAnyH_take (i := 25) (v := ?_) rfl (by kernel_rfl) (by kernel_rfl) (by kernel_rfl) (fun _ _ _ h => h) (Or.inl ⟨by kernel_rfl, ?_⟩) hHeld ?_
      rotate_left
      · (intro w hSw; (try dsimp only at hSw); go_simp; first | done | with_reducible rfl)
      (try simp only [Act.put, List.getElem_toArray, List.getElem_cons_zero, List.getElem_cons_succ, List.setIfInBounds_toArray, List.set_cons_zero, List.set_cons_succ])
      refine wpAnyH_take (i := 26) (v := ?_) rfl (by kernel_rfl) (by kernel_rfl) (by kernel_rfl) (fun _ _ _ h => h) (Or.inl ⟨by kernel_rfl, ?_⟩) hHeld ?_
      rotate_left
      · (intro w hSw; (try dsimp only at hSw); go_simp; first | done | with_reducible rfl)
      (try simp only [Act.put, List.getElem_toArray, List.getElem_cons_zero, List.getElem_cons_succ, List.setIfInBounds_toArray, List.set_cons_zero, List.set_cons_succ])
      refine wpAnyH_done (by kernel_rfl) ?_ _
      clear hHeld ka kb kh ki ky kx e0 e1 e2 e3 e4 e5 e6 e7 hsa hba hbh hbz hxa hxh kc kd ke kf kg kk
      go_wp2
      go_ret
      exact ⟨rfl, below_next hx8 hxz⟩
    · obtain rfl : rac = true := HTR.out rfl rfl
      go_wp2_with (first
        | (go_at_call 29; (with_reducible refine (identity_LinkedB A2 c2 l.length l xa xa seq _ (HSQ1.out) rfl (by omega) HSN.out (by omega) (by omega) HSQ.out HAA.out).mono ?_); rintro e w7 ⟨rfl, hb7⟩; obtain ⟨k0, kf0, kz0⟩ := keepB hb7 X hza; obtain ⟨k1, kf1, kz1⟩ := keepB hb7 (X + 1) hzb; have hx7 := below_next hbq hb7)
        | (go_at_call 29; (with_reducible refine (identity_LinkedB A2 c2 l.length l xb xa seq _ (HSQ1.out.next hb7) rfl (by omega) HSN.out (by omega) (by omega) HSQ.out HBA.out).mono ?_); rintro e w8 ⟨rfl, hb8⟩; obtain ⟨m0, mf0, mz0⟩ := keepB hb8 X kz0; obtain ⟨m1, mf1, mz1⟩ := keepB hb8 (X + 1) kz1; have hx8 := below_next hx7 hb8; have HS8 := Lib.hid ((HSQ1.out.next hb7).next hb8)))
      simp only [k0, k1] at m0 m1
      have e0 := (m0 0).trans p0
      have e1 := (m0 1).trans p1
      have e2 := (m0 2).trans p2
      have e3 := (m0 3).trans p3
      have e4 := (m1 0).trans q0
      have e5 := (m1 1).trans q1
      have e6 := (m1 2).trans q2
      have e7 := (m1 3).trans q3
      clear m0 m1 k0 k1 p0 p1 p2 p3 q0 q1 q2 q3 kf0 kf1 mf0 mf1 hb7 hb8 hx7 HSQ1 hbq hbW hza hzb kz0 kz1
      refine wp_region_held_drew (S := (fun w' => w'.cell? ⟨X, 0, none⟩ = some (.string xa.ns) ∧ w'.cell? ⟨X, 1, none⟩ = some (.int .i64 xa.val.kind) ∧ w'.cell? ⟨X, 2, none⟩ = some (.int .i64 xa.val.num) ∧ w'.cell? ⟨X, 3, none⟩ = some (.string xa.val.text) ∧ w'.cell? ⟨X + 1, 0, none⟩ = some (.string xb.ns) ∧ w'.cell? ⟨X + 1, 1, none⟩ = some (.int .i64 xb.val.kind) ∧ w'.cell? ⟨X + 1, 2, none⟩ = some (.int .i64 xb.val.num) ∧ w'.cell? ⟨X + 1, 3, none⟩ = some (.string xb.val.text))) (by kernel_rfl) ⟨e0, e1, e2, e3, e4, e5, e6, e7⟩ (fun hHeld => ?_)
      refine wpAnyH_take (i := 0) (v := ?_) rfl (by kernel_rfl) (by kernel_rfl) (by kernel_rfl) (fun _ _ _ h => h) (Or.inl ⟨by kernel_rfl, ?_⟩) hHeld ?_
      rotate_left
      · (intro w hSw; (try dsimp only at hSw); go_simp; first | done | with_reducible rfl)
      (try simp only [Act.put, List.getElem_toArray, List.getElem_cons_zero, List.setIfInBounds_toArray, List.set_cons_zero, List.set_cons_succ])
      refine wpAnyH_take (i := 1) (v := ?_) rfl (by kernel_rfl) (by kernel_rfl) (by kernel_rfl) (fun _ _ _ h => h) (Or.inl ⟨by kernel_rfl, ?_⟩) hHeld ?_
      rotate_left
      · (intro w hSw; (try dsimp only at hSw); go_simp; first | done | with_reducible rfl)
      (try simp only [Act.put, List.getElem_toArray, List.getElem_cons_zero, List.getElem_cons_succ, List.setIfInBounds_toArray, List.set_cons_zero, List.set_cons_succ])
      refine wpAnyH_take (i := 2) (v := ?_) rfl (by kernel_rfl) (by kernel_rfl) (by kernel_rfl) (fun _ _ _ h => h) (Or.inl ⟨by kernel_rfl, ?_⟩) hHeld ?_
      rotate_left
      · (intro w hSw; (try dsimp only at hSw); go_simp; first | done | with_reducible rfl)
      (try simp only [Act.put, List.getElem_toArray, List.getElem_cons_zero, List.getElem_cons_succ, List.setIfInBounds_toArray, List.set_cons_zero, List.set_cons_succ])
      refine wpAnyH_take (i := 3) (v := ?_) rfl (by kernel_rfl) (by kernel_rfl) (by kernel_rfl) (fun _ _ _ h => h) (Or.inl ⟨by kernel_rfl, ?_⟩) hHeld ?_
      rotate_left
      · (intro w hSw; (try dsimp only at hSw); go_simp; first | done | with_reducible rfl)
      (try simp only [Act.put, List.getElem_toArray, List.getElem_cons_zero, List.getElem_cons_succ, List.setIfInBounds_toArray, List.set_cons_zero, List.set_cons_succ])
      refine wpAnyH_take (i := 5) (v := ?_) rfl (by kernel_rfl) (by kernel_rfl) (by kernel_rfl) (fun _ _ _ h => h) (Or.inl ⟨by kernel_rfl, ?_⟩) hHeld ?_
      rotate_left
      · (intro w hSw; (try dsimp only at hSw); go_simp; first | done | with_reducible rfl)
      (try simp only [Act.put, List.getElem_toArray, List.getElem_cons_zero, List.getElem_cons_succ, List.setIfInBounds_toArray, List.set_cons_zero, List.set_cons_succ])
      refine wpAnyH_ready (rs := [4]) (by kernel_rfl) (by simp) ?_
      refine AllReadyH.cons rfl (fun K hK => ?_) AllReadyH.nil
      go_simp
      (go_at_call 13; (with_reducible refine (identity_At A2 c2 l xa seq _ ?_ (by omega) HSN.out (by omega) HSQ.out).mono ?_); (exact HS8.out.next (by repeat (first | with_reducible exact Below.refl _ _ | with_reducible assumption | (with_reducible refine Below.setCell ?_ ?_ _; rotate_left; focus (first | exact Nat.le_refl _ | exact Nat.le_add_right _ _ | (simp; done) | (simp; omega) | omega)) | (with_reducible refine Below.alloc ?_ ?_ _; rotate_left; focus (first | exact Nat.le_refl _ | exact Nat.le_add_right _ _ | (simp; done) | (simp; omega) | omega)) | with_reducible refine Below.drew ?_ | with_reducible refine below_drewN ?_ _ | (with_reducible refine below_nextN ?_ (by with_reducible assumption) ?_; rotate_left; focus (first | exact Nat.le_refl _ | exact Nat.le_add_right _ _ | (simp; done) | (simp; omega) | omega))))); rintro e wa ⟨⟨oa, Aa, ca, hoa, rfl, hca, hsa⟩, hba⟩; have hxa : Below w8.heap.size w8 wa := (by repeat (first | with_reducible exact Below.refl _ _ | with_reducible assumption | (with_reducible refine Below.setCell ?_ ?_ _; rotate_left; focus (first | exact Nat.le_refl _ | exact Nat.le_add_right _ _ | (simp; done) | (simp; omega) | omega)) | (with_reducible refine Below.alloc ?_ ?_ _; rotate_left; focus (first | exact Nat.le_refl _ | exact Nat.le_add_right _ _ | (simp; done) | (simp; omega) | omega)) | with_reducible refine Below.drew ?_ | with_reducible refine below_drewN ?_ _ | (with_reducible refine below_nextN ?_ (by with_reducible assumption) ?_; rotate_left; focus (first | exact Nat.le_refl _ | exact Nat.le_add_right _ _ | (simp; done) | (simp; omega) | omega)))); have hxaz := hxa.size; have HOA := Lib.hid hoa; obtain ⟨ka, _, kaz⟩ := keepB hxa X mz0; obtain ⟨kb, _, kbz⟩ := keepB hxa (X + 1) mz1; clear hoa)
      go_wp2_with fail
      refine hK.out _ _ ⟨?_, ?_, ?_, ?_, ?_, ?_, ?_, ?_⟩ (fun hHeld => ?_)
      iterate 8 (simp only [*])
      clear hK K
      (try simp only [Act.put, List.getElem_toArray, List.getElem_cons_zero, List.getElem_cons_succ, List.setIfInBounds_toArray, List.set_cons_zero, List.set_cons_succ])
      refine wpAnyH_ready (rs := [6]) (by kernel_rfl) (by simp) ?_
      refine AllReadyH.cons rfl (fun K hK => ?_) AllReadyH.nil
      go_simp
      (go_at_call 21; (with_reducible refine (ref16_HasId (A := Aa) (c := ca) (l := oa) xb ?_ (at_len (by omega) HOA.out) (has_linked HV.out HVA.out HVB.out HOA.out HAB.out)).mono ?_); (exact hsa); rintro e wh ⟨rfl, hbh⟩; have hxh : Below w8.heap.size w8 wh := (by repeat (first | with_reducible exact Below.refl _ _ | with_reducible assumption | (with_reducible refine Below.setCell ?_ ?_ _; rotate_left; focus (first | exact Nat.le_refl _ | exact Nat.le_add_right _ _ | (simp; done) | (simp; omega) | omega)) | (with_reducible refine Below.alloc ?_ ?_ _; rotate_left; focus (first | exact Nat.le_refl _ | exact Nat.le_add_right _ _ | (simp; done) | (simp; omega) | omega)) | with_reducible refine Below.drew ?_ | with_reducible refine below_drewN ?_ _ | (with_reducible refine below_nextN ?_ (by with_reducible assumption) ?_; rotate_left; focus (first | exact Nat.le_refl _ | exact Nat.le_add_right _ _ | (simp; done) | (simp; omega) | omega)))); have hxhz := hxh.size; obtain ⟨kh, _, khz⟩ := keepB hxh X mz0; obtain ⟨ki, _, kiz⟩ := keepB hxh (X + 1) mz1)
      go_wp2_with fail
      refine hK.out _ _ ⟨?_, ?_, ?_, ?_, ?_, ?_, ?_, ?_⟩ (fun hHeld => ?_)
      iterate 8 (simp only [*])
      clear hK K
      (try simp only [Act.put, List.getElem_toArray, List.getElem_cons_zero, List.getElem_cons_succ, List.setIfInBounds_toArray, List.set_cons_zero, List.set_cons_succ])
      refine wpAnyH_take (i := 7) (v := ?_) rfl (by kernel_rfl) (by kernel_rfl) (by kernel_rfl) (fun _ _ _ h => h) (Or.inl ⟨by kernel_rfl, ?_⟩) hHeld ?_
      rotate_left
      · (intro w hSw; (try dsimp only at hSw); go_simp; first | done | with_reducible rfl)
      (try simp only [Act.put, List.getElem_toArray, List.getElem_cons_zero, List.getElem_cons_succ, List.setIfInBounds_toArray, List.set_cons_zero, List.set_cons_succ])
      refine wpAnyH_take (i := 8) (v := ?_) rfl (by kernel_rfl) (by kernel_rfl) (by kernel_rfl) (fun _ _ _ h => h) (Or.inl ⟨by kernel_rfl, ?_⟩) hHeld ?_
      rotate_left
      · (intro w hSw; (try dsimp only at hSw); go_simp; first | done | with_reducible rfl)
      (try simp only [Act.put, List.getElem_toArray, List.getElem_cons_zero, List.getElem_cons_succ, List.setIfInBounds_toArray, List.set_cons_zero, List.set_cons_succ])
      refine wpAnyH_take (i := 9) (v := ?_) rfl (by kernel_rfl) (by kernel_rfl) (by kernel_rfl) (fun _ _ _ h => h) (Or.inl ⟨by kernel_rfl, ?_⟩) hHeld ?_
      rotate_left
      · (intro w hSw; (try dsimp only at hSw); go_simp; first | done | with_reducible rfl)
      (try simp only [Act.put, List.getElem_toArray, List.getElem_cons_zero, List.getElem_cons_succ, List.setIfInBounds_toArray, List.set_cons_zero, List.set_cons_succ])
      refine wpAnyH_take (i := 10) (v := ?_) rfl (by kernel_rfl) (by kernel_rfl) (by kernel_rfl) (fun _ _ _ h => h) (Or.inl ⟨by kernel_rfl, ?_⟩) hHeld ?_
      rotate_left
      · (intro w hSw; (try dsimp only at hSw); go_simp; first | done | with_reducible rfl)
      (try simp only [Act.put, List.getElem_toArray, List.getElem_cons_zero, List.getElem_cons_succ, List.setIfInBounds_toArray, List.set_cons_zero, List.set_cons_succ])
      refine wpAnyH_take (i := 11) (v := ?_) rfl (by kernel_rfl) (by kernel_rfl) (by kernel_rfl) (fun _ _ _ h => h) (Or.inl ⟨by kernel_rfl, ?_⟩) hHeld ?_
      rotate_left
      · (intro w hSw; (try dsimp only at hSw); go_simp; first | done | with_reducible rfl)
      (try simp only [Act.put, List.getElem_toArray, List.getElem_cons_zero, List.getElem_cons_succ, List.setIfInBounds_toArray, List.set_cons_zero, List.set_cons_succ])
      refine wpAnyH_take (i := 12) (v := ?_) rfl (by kernel_rfl) (by kernel_rfl) (by kernel_rfl) (fun _ _ _ h => h) (Or.inl ⟨by kernel_rfl, ?_⟩) hHeld ?_
      rotate_left
      · (intro w hSw; (try dsimp only at hSw); go_simp; first | done | with_reducible rfl)
      (try simp only [Act.put, List.getElem_toArray, List.getElem_cons_zero, List.getElem_cons_succ, List.setIfInBounds_toArray, List.set_cons_zero, List.set_cons_succ])
      refine wpAnyH_take (i := 13) (v := ?_) rfl (by kernel_rfl) (by kernel_rfl) (by kernel_rfl) (fun _ _ _ h => h) (Or.inl ⟨by kernel_rfl, ?_⟩) hHeld ?_
      rotate_left
      · (intro w hSw; (try dsimp only at hSw); go_simp; first | done | with_reducible rfl)
      (try simp only [Act.put, List.getElem_toArray, List.getElem_cons_zero, List.getElem_cons_succ, List.setIfInBounds_toArray, List.set_cons_zero, List.set_cons_succ])
      refine wpAnyH_take (i := 14) (v := ?_) rfl (by kernel_rfl) (by kernel_rfl) (by kernel_rfl) (fun _ _ _ h => h) (Or.inl ⟨by kernel_rfl, ?_⟩) hHeld ?_
      rotate_left
      · (intro w hSw; (try dsimp only at hSw); go_simp; first | done | with_reducible rfl)
      (try simp only [Act.put, List.getElem_toArray, List.getElem_cons_zero, List.getElem_cons_succ, List.setIfInBounds_toArray, List.set_cons_zero, List.set_cons_succ])
      refine wpAnyH_take (i := 16) (v := ?_) rfl (by kernel_rfl) (by kernel_rfl) (by kernel_rfl) (fun _ _ _ h => h) (Or.inl ⟨by kernel_rfl, ?_⟩) hHeld ?_
      rotate_left
      · (intro w hSw; (try dsimp only at hSw); go_simp; first | done | with_reducible rfl)
      (try simp only [Act.put, List.getElem_toArray, List.getElem_cons_zero, List.getElem_cons_succ, List.setIfInBounds_toArray, List.set_cons_zero, List.set_cons_succ])
      refine wpAnyH_take (i := 17) (v := ?_) rfl (by kernel_rfl) (by kernel_rfl) (by kernel_rfl) (fun _ _ _ h => h) (Or.inl ⟨by kernel_rfl, ?_⟩) hHeld ?_
      rotate_left
      · (intro w hSw; (try dsimp only at hSw); go_simp; first | done | with_reducible rfl)
      (try simp only [Act.put, List.getElem_toArray, List.getElem_cons_zero, List.getElem_cons_succ, List.setIfInBounds_toArray, List.set_cons_zero, List.set_cons_succ])
      refine wpAnyH_take (i := 18) (v := ?_) rfl (by kernel_rfl) (by kernel_rfl) (by kernel_rfl) (fun _ _ _ h => h) (Or.inl ⟨by kernel_rfl, ?_⟩) hHeld ?_
      rotate_left
      · (intro w hSw; (try dsimp only at hSw); go_simp; first | done | with_reducible rfl)
      (try simp only [Act.put, List.getElem_toArray, List.getElem_cons_zero, List.getElem_cons_succ, List.setIfInBounds_toArray, List.set_cons_zero, List.set_cons_succ])
      refine wpAnyH_ready (rs := [15]) (by kernel_rfl) (by simp) ?_
      refine AllReadyH.cons rfl (fun K hK => ?_) AllReadyH.nil
      go_simp
      (go_at_call 13; (with_reducible refine (identity_At A2 c2 l xa seq _ ?_ (by omega) HSN.out (by omega) HSQ.out).mono ?_); (exact HS8.out.next (by repeat (first | with_reducible exact Below.refl _ _ | with_reducible assumption | (with_reducible refine Below.setCell ?_ ?_ _; rotate_left; focus (first | exact Nat.le_refl _ | exact Nat.le_add_right _ _ | (simp; done) | (simp; omega) | omega)) | (with_reducible refine Below.alloc ?_ ?_ _; rotate_left; focus (first | exact Nat.le_refl _ | exact Nat.le_add_right _ _ | (simp; done) | (simp; omega) | omega)) | with_reducible refine Below.drew ?_ | with_reducible refine below_drewN ?_ _ | (with_reducible refine below_nextN ?_ (by with_reducible assumption) ?_; rotate_left; focus (first | exact Nat.le_refl _ | exact Nat.le_add_right _ _ | (simp; done) | (simp; omega) | omega))))); rintro e wc ⟨⟨oc, Ac, cc, hoc, rfl, hcc, hsc⟩, hbc⟩; have hxc : Below w8.heap.size w8 wc := (by repeat (first | with_reducible exact Below.refl _ _ | with_reducible assumption | (with_reducible refine Below.setCell ?_ ?_ _; rotate_left; focus (first | exact Nat.le_refl _ | exact Nat.le_add_right _ _ | (simp; done) | (simp; omega) | omega)) | (with_reducible refine Below.alloc ?_ ?_ _; rotate_left; focus (first | exact Nat.le_refl _ | exact Nat.le_add_right _ _ | (simp; done) | (simp; omega) | omega)) | with_reducible refine Below.drew ?_ | with_reducible refine below_drewN ?_ _ | (with_reducible refine below_nextN ?_ (by with_reducible assumption) ?_; rotate_left; focus (first | exact Nat.le_refl _ | exact Nat.le_add_right _ _ | (simp; done) | (simp; omega) | omega)))); have hxcz := hxc.size; have HOC := Lib.hid hoc; obtain ⟨kc, _, kcz⟩ := keepB hxc X mz0; obtain ⟨kd, _, kdz⟩ := keepB hxc (X + 1) mz1; clear hoc)
      go_wp2_with fail
      refine hK.out _ _ ⟨?_, ?_, ?_, ?_, ?_, ?_, ?_, ?_⟩ (fun hHeld => ?_)
      iterate 8 (simp only [*])
      clear hK K
      (try simp only [Act.put, List.getElem_toArray, List.getElem_cons_zero, List.getElem_cons_succ, List.setIfInBounds_toArray, List.set_cons_zero, List.set_cons_succ])
      refine wpAnyH_ready (rs := [19]) (by kernel_rfl) (by simp) ?_
      refine AllReadyH.cons rfl (fun K hK => ?_) AllReadyH.nil
      go_simp
      (go_at_call 13; (with_reducible refine (identity_At A2 c2 l xb seq _ ?_ (by omega) HSN.out (by omega) HSQ.out).mono ?_); (exact HS8.out.next (by repeat (first | with_reducible exact Below.refl _ _ | with_reducible assumption | (with_reducible refine Below.setCell ?_ ?_ _; rotate_left; focus (first | exact Nat.le_refl _ | exact Nat.le_add_right _ _ | (simp; done) | (simp; omega) | omega)) | (with_reducible refine Below.alloc ?_ ?_ _; rotate_left; focus (first | exact Nat.le_refl _ | exact Nat.le_add_right _ _ | (simp; done) | (simp; omega) | omega)) | with_reducible refine Below.drew ?_ | with_reducible refine below_drewN ?_ _ | (with_reducible refine below_nextN ?_ (by with_reducible assumption) ?_; rotate_left; focus (first | exact Nat.le_refl _ | exact Nat.le_add_right _ _ | (simp; done) | (simp; omega) | omega))))); rintro e wd ⟨⟨od, Ad, cd, hod, rfl, hcd, hsd⟩, hbd⟩; have hxd : Below w8.heap.size w8 wd := (by repeat (first | with_reducible exact Below.refl _ _ | with_reducible assumption | (with_reducible refine Below.setCell ?_ ?_ _; rotate_left; focus (first | exact Nat.le_refl _ | exact Nat.le_add_right _ _ | (simp; done) | (simp; omega) | omega)) | (with_reducible refine Below.alloc ?_ ?_ _; rotate_left; focus (first | exact Nat.le_refl _ | exact Nat.le_add_right _ _ | (simp; done) | (simp; omega) | omega)) | with_reducible refine Below.drew ?_ | with_reducible refine below_drewN ?_ _ | (with_reducible refine below_nextN ?_ (by with_reducible assumption) ?_; rotate_left; focus (first | exact Nat.le_refl _ | exact Nat.le_add_right _ _ | (simp; done) | (simp; omega) | omega)))); have hxdz := hxd.size; obtain rfl := at_same HV.out HVA.out HVB.out HAB.out HOC.out hod; obtain ⟨ke, _, kez⟩ := keepB hxd X mz0; obtain ⟨kf, _, kfz⟩ := keepB hxd (X + 1) mz1; clear hod; have HSC := Lib.hid (hsc.next hbd))
      go_wp2_with fail
      refine hK.out _ _ ⟨?_, ?_, ?_, ?_, ?_, ?_, ?_, ?_⟩ (fun hHeld => ?_)
      iterate 8 (simp only [*])
      clear hK K
      (try simp only [Act.put, List.getElem_toArray, List.getElem_cons_zero, List.getElem_cons_succ, List.setIfInBounds_toArray, List.set_cons_zero, List.set_cons_succ])
      refine wpAnyH_ready (rs := [20]) (by kernel_rfl) (by simp) ?_
      refine AllReadyH.cons rfl (fun K hK => ?_) AllReadyH.nil
      go_simp
      (go_at_call 22; (with_reducible refine (same_yes Ac Ad cc cd oc.length oc _ rfl HSC.out hsd (at_len (by omega) HOC.out)).mono ?_); rintro e ws ⟨rfl, hbs⟩; have hxs : Below w8.heap.size w8 ws := (by repeat (first | with_reducible exact Below.refl _ _ | with_reducible assumption | (with_reducible refine Below.setCell ?_ ?_ _; rotate_left; focus (first | exact Nat.le_refl _ | exact Nat.le_add_right _ _ | (simp; done) | (simp; omega) | omega)) | (with_reducible refine Below.alloc ?_ ?_ _; rotate_left; focus (first | exact Nat.le_refl _ | exact Nat.le_add_right _ _ | (simp; done) | (simp; omega) | omega)) | with_reducible refine Below.drew ?_ | with_reducible refine below_drewN ?_ _ | (with_reducible refine below_nextN ?_ (by with_reducible assumption) ?_; rotate_left; focus (first | exact Nat.le_refl _ | exact Nat.le_add_right _ _ | (simp; done) | (simp; omega) | omega)))); have hxsz := hxs.size; obtain ⟨kg, _, kgz⟩ := keepB hxs X mz0; obtain ⟨kk, _, kkz⟩ := keepB hxs (X + 1) mz1)
      go_wp2_with fail
      refine hK.out _ _ ⟨?_, ?_, ?_, ?_, ?_, ?_, ?_, ?_⟩ (fun hHeld => ?_)
      iterate 8 (simp only [*])
      clear hK K
      (try simp only [Act.put, List.getElem_toArray, List.getElem_cons_zero, List.getElem_cons_succ, List.setIfInBounds_toArray, List.set_cons_zero, List.set_cons_succ])
      refine wpAnyH_take (i := 21) (v := ?_) rfl (by kernel_rfl) (by kernel_rfl) (by kernel_rfl) (fun _ _ _ h => h) (Or.inl ⟨by kernel_rfl, ?_⟩) hHeld ?_
      rotate_left
      · (intro w hSw; (try dsimp only at hSw); go_simp; first | done | with_reducible rfl)
      (try simp only [Act.put, List.getElem_toArray, List.getElem_cons_zero, List.getElem_cons_succ, List.setIfInBounds_toArray, List.set_cons_zero, List.set_cons_succ])
      refine wpAnyH_take (i := 22) (v := ?_) rfl (by kernel_rfl) (by kernel_rfl) (by kernel_rfl) (fun _ _ _ h => h) (Or.inl ⟨by kernel_rfl, ?_⟩) hHeld ?_
      rotate_left
      · (intro w hSw; (try dsimp only at hSw); go_simp; first | done | with_reducible rfl)
      (try simp only [Act.put, List.getElem_toArray, List.getElem_cons_zero, List.getElem_cons_succ, List.setIfInBounds_toArray, List.set_cons_zero, List.set_cons_succ])
      refine wpAnyH_take (i := 23) (v := ?_) rfl (by kernel_rfl) (by kernel_rfl) (by kernel_rfl) (fun _ _ _ h => h) (Or.inl ⟨by kernel_rfl, ?_⟩) hHeld ?_
      rotate_left
      · (intro w hSw; (try dsimp only at hSw); go_simp; first | done | with_reducible rfl)
      (try simp only [Act.put, List.getElem_toArray, List.getElem_cons_zero, List.getElem_cons_succ, List.setIfInBounds_toArray, List.set_cons_zero, List.set_cons_succ])
      refine wpAnyH_ready (rs := [24]) (by kernel_rfl) (by simp) ?_
      refine AllReadyH.cons rfl (fun K hK => ?_) AllReadyH.nil
      go_simp
      (go_at_call 14; refine (awake_any _).mono ?_; rintro e wz ⟨rfl, hbz⟩; have hxz : Below w8.heap.size w8 wz := (by repeat (first | with_reducible exact Below.refl _ _ | with_reducible assumption | (with_reducible refine Below.setCell ?_ ?_ _; rotate_left; focus (first | exact Nat.le_refl _ | exact Nat.le_add_right _ _ | (simp; done) | (simp; omega) | omega)) | (with_reducible refine Below.alloc ?_ ?_ _; rotate_left; focus (first | exact Nat.le_refl _ | exact Nat.le_add_right _ _ | (simp; done) | (simp; omega) | omega)) | with_reducible refine Below.drew ?_ | with_reducible refine below_drewN ?_ _ | (with_reducible refine below_nextN ?_ (by with_reducible assumption) ?_; rotate_left; focus (first | exact Nat.le_refl _ | exact Nat.le_add_right _ _ | (simp; done) | (simp; omega) | omega)))); obtain ⟨ky, _, kyz⟩ := keepB hxz X mz0; obtain ⟨kx, _, kxz⟩ := keepB hxz (X + 1) mz1)
      go_wp2_with fail
      refine hK.out _ _ ⟨?_, ?_, ?_, ?_, ?_, ?_, ?_, ?_⟩ (fun hHeld => ?_)
      iterate 8 (simp only [*])
      clear hK K
      (try simp only [Act.put, List.getElem_toArray, List.getElem_cons_zero, List.getElem_cons_succ, List.setIfInBounds_toArray, List.set_cons_zero, List.set_cons_succ])
      refine wpAnyH_take (i := 25) (v := ?_) rfl (by kernel_rfl) (by kernel_rfl) (by kernel_rfl) (fun _ _ _ h => h) (Or.inl ⟨by kernel_rfl, ?_⟩) hHeld ?_
      rotate_left
      · (intro w hSw; (try dsimp only at hSw); go_simp; first | done | with_reducible rfl)
      (try simp only [Act.put, List.getElem_toArray, List.getElem_cons_zero, List.getElem_cons_succ, List.setIfInBounds_toArray, List.set_cons_zero, List.set_cons_succ])
      refine wpAnyH_take (i := 26) (v := ?_) rfl (by kernel_rfl) (by kernel_rfl) (by kernel_rfl) (fun _ _ _ h => h) (Or.inl ⟨by kernel_rfl, ?_⟩) hHeld ?_
      rotate_left
      · (intro w hSw; (try dsimp only at hSw); go_simp; first | done | with_reducible rfl)
      (try simp only [Act.put, List.getElem_toArray, List.getElem_cons_zero, List.getElem_cons_succ, List.setIfInBounds_toArray, List.set_cons_zero, List.set_cons_succ])
      refine wpAnyH_done (by kernel_rfl) ?_ _
      clear hHeld ka kb kh ki ky kx e0 e1 e2 e3 e4 e5 e6 e7 hsa hba hbh hbz hxa hxh kc kd ke kf kg kk
      go_wp2
      go_ret
      exact ⟨rfl, below_next hx8 hxz⟩
end Go.Proofs.Ytoleifehijccmaa
