/-
  The law IdentityGrows.
-/
import Derived.Test.YtoleifehijccmaaLooks
import Derived.Test.YtoleifehijccmaaWithin
import Derived.Test.YtoleifehijccmaaGrowM
namespace Go.Proofs.Ytoleifehijccmaa
set_option linter.unusedVariables false
open Go.RowKit

/-- A slice of identifiers does not lie in the tape's block: the tape holds no string. -/
theorem SliceIs.grownT {w w' : World} {g b : Nat} {A : Option Addr} {l : List Ident} (h : SliceIs w w.heap.size Ident.cells 4 A l) (hk : IsTape w g b) (hg : w.grownBy w' (some g)) : SliceIs w' w'.heap.size Ident.cells 4 A l := by
  intro hl
  obtain ⟨b', o, rfl, hB, hc⟩ := h hl
  have hne : b' ≠ g := by
    rintro rfl
    have h0 := hc 0 hl 0 _ rfl
    obtain ⟨n, c, a, zs, hBk, _⟩ := hk.is
    rw [hBk.cell] at h0
    simp only [Nat.zero_mul, Nat.add_zero] at h0
    match o, h0 with
    | 0, h0 => simp at h0
    | 1, h0 => simp at h0
    | o + 2, h0 => simp at h0
  exact ⟨b', o, rfl, Nat.lt_of_lt_of_le hB hg.size, fun i hi j u hu => (World.cell?_of_block (hg.block b' hB (fun e => by injection e with e; exact hne e))).trans (hc i hi j u hu)⟩
theorem wrap_in (n : Int) (h1 : -1000000 ≤ n) (h2 : n ≤ 1000000) : IntKind.i64.wrap n = n := by
  simp [IntKind.wrap, IntKind.bits, IntKind.signed]
  omega
theorem IsTape.drew {w : World} {g b : Nat} (h : IsTape w g b) : IsTape w.drew g b := h.below (Below.refl _ _).drew
theorem valid_take {l : List Link} (h : validLinks l = true) (n : Nat) : validLinks (l.take n) = true := by
  simp only [validLinks, Bool.and_eq_true, decide_eq_true_eq] at h ⊢
  refine ⟨by simp; omega, ?_⟩
  cases h1 : validFrom 0 (l.take n)
  · have h2 := validFrom_app 0 _ (l.drop n) h1
    rw [List.take_append_drop] at h2
    rw [h2] at h
    exact h.2
  · rfl
theorem subj_take {l : List Link} {who : Ident} {f : Int} {n : Nat} {o o' : List Ident} (hv : validLinks l = true) (ha : validId who = true) (ho : SubjectOut (l.take n) who f o) (ho' : SubjectOut l who f o') (hn : ∀ i (h : i < l.length), n ≤ i → f < l[i].seq) : ∀ x ∈ o, x ∈ o' := by
  intro x hx
  unfold SubjectOut at ho ho'
  rw [valid_take hv, ha] at ho
  rw [hv, ha] at ho'
  have ho : IsSubject (l.take n) who f o := ho
  have ho' : IsSubject l who f o' := ho'
  exact (ho'.2 x).2 (subject_take (validLinks_asc hv) hn ((ho.2 x).1 hx))
theorem subj_earlier {l : List Link} {who : Ident} {f f' : Int} {o o' : List Ident} (hv : validLinks l = true) (ha : validId who = true) (ho : SubjectOut l who f o) (ho' : SubjectOut l who f' o') (hf : f' ≤ f) : ∀ x ∈ o, x ∈ o' := by
  intro x hx
  unfold SubjectOut at ho ho'
  rw [hv, ha] at ho ho'
  have ho : IsSubject l who f o := ho
  have ho' : IsSubject l who f' o' := ho'
  exact (ho'.2 x).2 (subject_earlier (validLinks_asc hv) hf ((ho.2 x).1 hx))
theorem subj_at {l : List Link} {who : Ident} {f s : Int} {o o' : List Ident} (hv : validLinks l = true) (ha : validId who = true) (ho : AtOut l who s o) (ho' : SubjectOut l who f o') (hf : f ≤ s) : ∀ x ∈ o, x ∈ o' := by
  intro x hx
  unfold AtOut at ho
  unfold SubjectOut at ho'
  rw [hv, ha] at ho ho'
  have ho : IsAt l who s o := ho
  have ho' : IsSubject l who f o' := ho'
  exact (ho'.2 x).2 (reach_in (validLinks_asc hv) hf ((ho.2 x).1 hx))
theorem subj_self {l : List Link} {who : Ident} {f : Int} {o : List Ident} (hv : validLinks l = true) (ha : validId who = true) (ho : SubjectOut l who f o) : decide (who ∈ o) = true := by
  unfold SubjectOut at ho
  rw [hv, ha] at ho
  have ho : IsSubject l who f o := ho
  exact decide_eq_true ((ho.2 who).2 (.inl .refl))
theorem after_exit {l : List Link} (hv : validLinks l = true) {m r : Nat} {f : Int} (hm : m < l.length) (hf : f < l[m].seq) : ∀ i (h : i < l.length), m + r ≤ i → f < l[i].seq := by
  intro i hi hmi
  rcases Nat.lt_or_ge m i with h | h
  · have := List.pairwise_iff_getElem.1 (validLinks_asc hv) m i hm hi h
    omega
  · obtain rfl : i = m := by omega
    omega
set_option maxRecDepth 100000 in
set_option maxHeartbeats 4000000 in
theorem grows_walk (A : Option Addr) (c : Nat) (t : List Int) (w : World) (hl : SliceIs w w.heap.size intCells 1 A t) (hn : t.length * 8 ≤ 140737488351232) :
    Calls Try.prog 4 #[.slice A t.length c] w fun e w' => e = .returned (.bool true) ∧ Below w.heap.size w w' := by
  have HL := Lib.hid hl
  clear hl
  go_enter Try.func4, Try.ntmps4
  go_wp2_with fail
  refine (tape_New A c t _ HL.out hn).mono ?_
  rintro e w1 ⟨⟨g, b, rfl, hg1, hb1, hk1⟩, hx1⟩
  have HK1 := Lib.hid hk1
  clear hk1
  go_wp2_with fail
  refine (tape_Links g b 8 _ HK1.out (by omega)).mono ?_
  rintro e w2 ⟨v2, l, s, rfl, hown2, hgen, hs4, hl8, hk2, hg2⟩
  obtain ⟨A2, c2, rfl, hc2, hsl2, hA2⟩ := hown2.slice link_len
  have hlt1 : g < w1.heap.size := HK1.out.ltg
  have hne2 : ∀ a, A2 = some a → some a.block ≠ some g := fun a ha e => by injection e with e; have := (hA2 a ha).1; omega
  have hval := hgen.links (by omega)
  have HV := Lib.hid hval
  have HSN := Lib.hid (valid_sane hval)
  have HK2 := Lib.hid hk2
  have HS2 := Lib.hid hsl2
  have HNE := Lib.hid hne2
  clear hk2 hsl2 hne2 hval hgen hown2 hA2
  go_wp2_with fail
  refine (tape_Identifier g b _ HK2.out).mono ?_
  rintro e w3 ⟨who, rfl, hvw, hsw, hk3, hg3⟩
  have HK3 := Lib.hid hk3
  clear hk3
  go_wp2_with fail
  refine (tape_Next g b 20 _ HK3.out (by omega) (by omega)).mono ?_
  rintro e w4 ⟨fr, rfl, hfr, hk4, hg4⟩
  have hfr' : fr < 20 := by rcases hfr with h | h <;> omega
  have hg04 : w1.grownBy w4 (some g) := grown_trans (grown_trans hg2 hg3) hg4
  have hx4 : Below w.heap.size w w4 := Below.grown hx1 hg04 hx1.size (fun q e => by injection e with e; omega)
  have HS4 : Hid (SliceIs w4 w4.heap.size Link.cells 10 A2 l) := (HS2.out.grown hg3 HNE.out).grown hg4 HNE.out
  have HK4 := Lib.hid hk4
  have HVW := Lib.hid hvw
  have hgl4 := hk4.ltg
  clear hg04 hg2 hg3 hg4 hk4 HK1 HK2 HK3 HS2 HL hx1 hvw hfr
  go_wp2_with fail
  go_loopw [7] (fun vi wr => ∃ m : Nat, m ≤ l.length ∧ vi = .int .i64 m ∧ wr = w4.alloc (.cells who.cells.toArray 27) ∧ ∀ i (h : i < l.length), i < m → l[i].seq ≤ fr) (fun vi _ => l.length - (intOf vi).toNat)
  case atStart => exact ⟨0, Nat.zero_le _, rfl, rfl, fun i _ h => by omega⟩
  case round =>
    obtain ⟨m, hm, rfl, rfl, hle⟩ := hrel
    have HLE := Lib.hid hle
    clear hle
    by_cases hlt : m < l.length
    · obtain ⟨b5, o5, rfl, hb5, hc5⟩ := HS4.out.get hlt
      obtain ⟨_, _, s8, _⟩ := Link.cells10 hc5
      clear hc5
      by_cases hsq : l[m].seq ≤ fr
      · go_wp2
        go_roundw
        case rel => exact ⟨m + 1, by omega, by go_num, trivial, fun i h hi => by
          rcases Nat.lt_or_ge i m with h1 | h1
          · exact HLE.out i h h1
          · obtain rfl : i = m := by omega
            exact hsq⟩
        case measure => simp [intOf]; omega
      · have hsq' : decide (l[m].seq ≤ (fr : Int)) = false := by simpa using hsq
        go_wp2_with fail
        with_reducible refine (tape_Next g b ((l.length : Int) - (m : Int) + 1) _ (HK4.out.alloc _) (by omega) (by omega)).mono ?_
        rintro e w5 ⟨r5, rfl, hr5, hk5, hg5⟩
        have hr5' : m + r5 ≤ l.length := by rcases hr5 with h | h <;> omega
        have hB5 : Blk w5 w4.heap.size 27 who.cells.toArray := Blk.grown (Blk.new _ _ _) hg5 (fun e => by injection e with e; omega)
        have hx5 : Below w.heap.size w w5 := Below.grown (hx4.alloc hx4.size _) hg5 (by have := hx4.size; simp; omega) (fun q e => by injection e with e; omega)
        have HS5 : Hid (SliceIs w5 w5.heap.size Link.cells 10 (some ⟨b5, o5, none⟩) l) := (HS4.out.next ((Below.refl _ _).alloc (Nat.le_refl _) _)).grown hg5 HNE.out
        have HK5 := Lib.hid hk5
        obtain ⟨p0, p1, p2, p3⟩ := Ident.blk hB5
        have hzB := hB5.lt
        have HB5 := Lib.hid hB5
        clear hk5 hB5 HS4 HK4 hx4 hr5
        go_wp2_with fail
        refine (identity_SubjectN (some ⟨b5, o5, none⟩) c2 l.length l who fr _ HS5.out rfl (by omega) HSN.out (by omega) (by omega)).mono ?_
        rintro e w6 ⟨⟨o6, A6, c6, ho6, rfl, hs6⟩, hb6⟩
        have hx6 := below_next hx5 hb6
        have HS6 := Lib.hid (HS5.out.next hb6)
        have HK6 := Lib.hid (HK5.out.below hb6)
        have hB6 : Blk w6 w4.heap.size 27 who.cells.toArray := HB5.out.below hb6 hzB
        have HO6 := Lib.hid ho6
        have HSO6 := Lib.hid hs6
        clear p0 p1 p2 p3 ho6 hs6 HS5 HK5 HB5
        obtain ⟨p0, p1, p2, p3⟩ := Ident.blk hB6
        have hzB6 := hB6.lt
        have HB6 := Lib.hid hB6
        clear hB6
        have hcut1 : (0 : Int) ≤ (m : Int) + (r5 : Int) := by omega
        have hcut2 : (m : Int) + (r5 : Int) ≤ (c2 : Int) := by omega
        go_wp2_with fail
        refine wp_region_held_drew (S := (fun w' => w'.cell? ⟨w4.heap.size, 0, none⟩ = some (.string who.ns) ∧ w'.cell? ⟨w4.heap.size, 1, none⟩ = some (.int .i64 who.val.kind) ∧ w'.cell? ⟨w4.heap.size, 2, none⟩ = some (.int .i64 who.val.num) ∧ w'.cell? ⟨w4.heap.size, 3, none⟩ = some (.string who.val.text))) (by kernel_rfl) ⟨p0, p1, p2, p3⟩ (fun hHeld => ?_)
        refine wpAnyH_take (i := 0) (v := ?_) rfl (by kernel_rfl) (by kernel_rfl) (by kernel_rfl) (fun _ _ _ h => h) (Or.inl ⟨by kernel_rfl, ?_⟩) hHeld ?_
        rotate_left
        · (intro w hSw; (try dsimp only at hSw); go_simp; first | done | with_reducible rfl)
        (try simp only [Act.put, List.getElem_toArray, List.getElem_cons_zero, List.getElem_cons_succ, List.setIfInBounds_toArray, List.set_cons_zero, List.set_cons_succ])
        refine wpAnyH_take (i := 1) (v := ?_) rfl (by kernel_rfl) (by kernel_rfl) (by kernel_rfl) (fun _ _ _ h => h) (Or.inl ⟨by kernel_rfl, ?_⟩) hHeld ?_
        rotate_left
        · (intro w hSw; (try dsimp only at hSw); go_simp; first | done | with_reducible rfl)
        (try simp only [Act.put, List.getElem_toArray, List.getElem_cons_zero, List.getElem_cons_succ, List.setIfInBounds_toArray, List.set_cons_zero, List.set_cons_succ])
        refine wpAnyH_take (i := 2) (v := ?_) rfl (by kernel_rfl) (by kernel_rfl) (by kernel_rfl) (fun _ _ _ h => h) (Or.inl ⟨by kernel_rfl, ?_⟩) hHeld ?_
        rotate_left
        · (intro w hSw; (try dsimp only at hSw); go_simp; first | done | with_reducible rfl)
        (try simp only [Act.put, List.getElem_toArray, List.getElem_cons_zero, List.getElem_cons_succ, List.setIfInBounds_toArray, List.set_cons_zero, List.set_cons_succ])
        refine wpAnyH_take (i := 3) (v := ?_) rfl (by kernel_rfl) (by kernel_rfl) (by kernel_rfl) (fun _ _ _ h => h) (Or.inl ⟨by kernel_rfl, ?_⟩) hHeld ?_
        rotate_left
        · (intro w hSw; (try dsimp only at hSw); go_simp; first | done | with_reducible rfl)
        (try simp only [Act.put, List.getElem_toArray, List.getElem_cons_zero, List.getElem_cons_succ, List.setIfInBounds_toArray, List.set_cons_zero, List.set_cons_succ])
        refine wpAnyH_take (i := 4) (v := ?_) rfl (by kernel_rfl) (by kernel_rfl) (by kernel_rfl) (fun _ _ _ h => h) (Or.inl ⟨by kernel_rfl, ?_⟩) hHeld ?_
        rotate_left
        · (intro w hSw; (try dsimp only at hSw); go_simp; first | done | with_reducible rfl)
        (try simp only [Act.put, List.getElem_toArray, List.getElem_cons_zero, List.getElem_cons_succ, List.setIfInBounds_toArray, List.set_cons_zero, List.set_cons_succ])
        refine wpAnyH_ready (rs := [5]) (by kernel_rfl) (by simp) ?_
        refine AllReadyH.cons rfl (fun K hK => ?_) AllReadyH.nil
        go_simp
        (go_at_call 19; (refine (identity_SubjectN (some ⟨b5, o5, none⟩) c2 (m + r5) (l.take (m + r5)) who fr _ ((HS6.out.take _).next (by repeat (first | with_reducible exact Below.refl _ _ | with_reducible assumption | (with_reducible refine Below.setCell ?_ ?_ _; rotate_left; focus (first | exact Nat.le_refl _ | exact Nat.le_add_right _ _ | (simp; done) | (simp; omega) | omega)) | (with_reducible refine Below.alloc ?_ ?_ _; rotate_left; focus (first | exact Nat.le_refl _ | exact Nat.le_add_right _ _ | (simp; done) | (simp; omega) | omega)) | with_reducible refine Below.drew ?_ | with_reducible refine below_drewN ?_ _ | (with_reducible refine below_nextN ?_ (by with_reducible assumption) ?_; rotate_left; focus (first | exact Nat.le_refl _ | exact Nat.le_add_right _ _ | (simp; done) | (simp; omega) | omega))))) (by simp; omega) (by omega) (fun x hx => HSN.out x (List.mem_of_mem_take hx)) (by omega) (by omega)).mono ?_); rintro e w7 ⟨⟨o7, A7, c7, ho7, rfl, hs7⟩, hb7⟩; have hx7 : Below w6.heap.size w6 w7 := (by repeat (first | with_reducible exact Below.refl _ _ | with_reducible assumption | (with_reducible refine Below.setCell ?_ ?_ _; rotate_left; focus (first | exact Nat.le_refl _ | exact Nat.le_add_right _ _ | (simp; done) | (simp; omega) | omega)) | (with_reducible refine Below.alloc ?_ ?_ _; rotate_left; focus (first | exact Nat.le_refl _ | exact Nat.le_add_right _ _ | (simp; done) | (simp; omega) | omega)) | with_reducible refine Below.drew ?_ | with_reducible refine below_drewN ?_ _ | (with_reducible refine below_nextN ?_ (by with_reducible assumption) ?_; rotate_left; focus (first | exact Nat.le_refl _ | exact Nat.le_add_right _ _ | (simp; done) | (simp; omega) | omega)))); obtain ⟨k7, _, _⟩ := keepB hx7 w4.heap.size hzB6; have HO7 := Lib.hid ho7; clear ho7)
        go_wp2_with fail
        refine hK.out _ _ ⟨?_, ?_, ?_, ?_⟩ (fun hHeld => ?_)
        iterate 4 (simp only [*])
        clear hK K
        (try simp only [Act.put, List.getElem_toArray, List.getElem_cons_zero, List.getElem_cons_succ, List.setIfInBounds_toArray, List.set_cons_zero, List.set_cons_succ])
        refine wpAnyH_take (i := 6) (v := ?_) rfl (by kernel_rfl) (by kernel_rfl) (by kernel_rfl) (fun _ _ _ h => h) (Or.inl ⟨by kernel_rfl, ?_⟩) hHeld ?_
        rotate_left
        · (intro w hSw; (try dsimp only at hSw); go_simp; first | done | with_reducible rfl)
        (try simp only [Act.put, List.getElem_toArray, List.getElem_cons_zero, List.getElem_cons_succ, List.setIfInBounds_toArray, List.set_cons_zero, List.set_cons_succ])
        refine wpAnyH_done (by kernel_rfl) ?_ _
        have hxx7 := below_next hx6 hx7
        have hw1 : IntKind.i64.wrap ((fr : Int) - 1) = (fr : Int) - 1 := wrap_in _ (by omega) (by omega)
        have HS7 := Lib.hid (HS6.out.next hx7)
        have HK7 := Lib.hid (HK6.out.below hx7)
        have hB7 : Blk w7 w4.heap.size 27 who.cells.toArray := HB6.out.below hx7 hzB6
        have HSO67 := Lib.hid (HSO6.out.next hx7)
        have HSO7 := Lib.hid hs7
        clear hHeld p0 p1 p2 p3 HS6 HK6 HSO6 hs7 k7
        obtain ⟨p0, p1, p2, p3⟩ := Ident.blk hB7
        have hzB7 := hB7.lt
        have HB7 := Lib.hid hB7
        clear hB7
        go_wp2_with fail
        refine wp_region_held_drew (S := (fun w' => w'.cell? ⟨w4.heap.size, 0, none⟩ = some (.string who.ns) ∧ w'.cell? ⟨w4.heap.size, 1, none⟩ = some (.int .i64 who.val.kind) ∧ w'.cell? ⟨w4.heap.size, 2, none⟩ = some (.int .i64 who.val.num) ∧ w'.cell? ⟨w4.heap.size, 3, none⟩ = some (.string who.val.text))) (by kernel_rfl) ⟨p0, p1, p2, p3⟩ (fun hHeld => ?_)
        refine wpAnyH_take (i := 0) (v := ?_) rfl (by kernel_rfl) (by kernel_rfl) (by kernel_rfl) (fun _ _ _ h => h) (Or.inl ⟨by kernel_rfl, ?_⟩) hHeld ?_
        rotate_left
        · (intro w hSw; (try dsimp only at hSw); go_simp; first | done | with_reducible rfl)
        (try simp only [Act.put, List.getElem_toArray, List.getElem_cons_zero, List.getElem_cons_succ, List.setIfInBounds_toArray, List.set_cons_zero, List.set_cons_succ])
        refine wpAnyH_take (i := 1) (v := ?_) rfl (by kernel_rfl) (by kernel_rfl) (by kernel_rfl) (fun _ _ _ h => h) (Or.inl ⟨by kernel_rfl, ?_⟩) hHeld ?_
        rotate_left
        · (intro w hSw; (try dsimp only at hSw); go_simp; first | done | with_reducible rfl)
        (try simp only [Act.put, List.getElem_toArray, List.getElem_cons_zero, List.getElem_cons_succ, List.setIfInBounds_toArray, List.set_cons_zero, List.set_cons_succ])
        refine wpAnyH_take (i := 2) (v := ?_) rfl (by kernel_rfl) (by kernel_rfl) (by kernel_rfl) (fun _ _ _ h => h) (Or.inl ⟨by kernel_rfl, ?_⟩) hHeld ?_
        rotate_left
        · (intro w hSw; (try dsimp only at hSw); go_simp; first | done | with_reducible rfl)
        (try simp only [Act.put, List.getElem_toArray, List.getElem_cons_zero, List.getElem_cons_succ, List.setIfInBounds_toArray, List.set_cons_zero, List.set_cons_succ])
        refine wpAnyH_take (i := 3) (v := ?_) rfl (by kernel_rfl) (by kernel_rfl) (by kernel_rfl) (fun _ _ _ h => h) (Or.inl ⟨by kernel_rfl, ?_⟩) hHeld ?_
        rotate_left
        · (intro w hSw; (try dsimp only at hSw); go_simp; first | done | with_reducible rfl)
        (try simp only [Act.put, List.getElem_toArray, List.getElem_cons_zero, List.getElem_cons_succ, List.setIfInBounds_toArray, List.set_cons_zero, List.set_cons_succ])
        refine wpAnyH_take (i := 4) (v := ?_) rfl (by kernel_rfl) (by kernel_rfl) (by kernel_rfl) (fun _ _ _ h => h) (Or.inl ⟨by kernel_rfl, ?_⟩) hHeld ?_
        rotate_left
        · (intro w hSw; (try dsimp only at hSw); go_simp; first | done | with_reducible rfl)
        (try simp only [Act.put, List.getElem_toArray, List.getElem_cons_zero, List.getElem_cons_succ, List.setIfInBounds_toArray, List.set_cons_zero, List.set_cons_succ])
        refine wpAnyH_ready (rs := [5]) (by kernel_rfl) (by simp) ?_
        refine AllReadyH.cons rfl (fun K hK => ?_) AllReadyH.nil
        go_simp
        (go_at_call 18; (refine (tape_Next g b 5 _ HK7.out.drew (by omega) (by omega)).mono ?_); rintro e w8 ⟨r8, rfl, hr8, hk8, hg8⟩; have hr8' : r8 < 5 := (by rcases hr8 with h | h <;> omega); have hB8 : Blk w8 w4.heap.size 27 who.cells.toArray := Blk.grown (by exact HB7.out) hg8 (fun e => by injection e with e; omega); obtain ⟨k80, k81, k82, k83⟩ := Ident.blk hB8; have HB8 := Lib.hid hB8; clear hB8)
        go_wp2_with fail
        refine hK.out _ _ ⟨?_, ?_, ?_, ?_⟩ (fun hHeld => ?_)
        iterate 4 (simp only [*])
        clear hK K
        (try simp only [Act.put, List.getElem_toArray, List.getElem_cons_zero, List.getElem_cons_succ, List.setIfInBounds_toArray, List.set_cons_zero, List.set_cons_succ])
        have hx8 : Below w.heap.size w w8 := Below.grown hxx7.drew hg8 hxx7.size (fun q e => by injection e with e; omega)
        have HS8 : Hid (SliceIs w8 w8.heap.size Link.cells 10 (some ⟨b5, o5, none⟩) l) := SliceIs.grown (w := w7.drew) HS7.out hg8 HNE.out
        have HK8 := Lib.hid hk8
        have HO68 : Hid (SliceIs w8 w8.heap.size Ident.cells 4 A6 o6) := SliceIs.grownT (w := w7.drew) HSO67.out HK7.out.drew hg8
        have HO78 : Hid (SliceIs w8 w8.heap.size Ident.cells 4 A7 o7) := SliceIs.grownT (w := w7.drew) HSO7.out HK7.out.drew hg8
        have hzB8 := HB8.out.lt
        clear p0 p1 p2 p3 hk8 HS7 HK7 HSO67 HSO7 HB7
        have hw2 : IntKind.i64.wrap ((fr : Int) - 1 - (r8 : Int)) = (fr : Int) - 1 - (r8 : Int) := wrap_in _ (by omega) (by omega)
        refine wpAnyH_take (i := 6) (v := ?_) rfl (by kernel_rfl) (by kernel_rfl) (by kernel_rfl) (fun _ _ _ h => h) (Or.inl ⟨by kernel_rfl, ?_⟩) hHeld ?_
        rotate_left
        · (intro w hSw; (try dsimp only at hSw); go_simp; first | done | with_reducible rfl)
        (try simp only [Act.put, List.getElem_toArray, List.getElem_cons_zero, List.getElem_cons_succ, List.setIfInBounds_toArray, List.set_cons_zero, List.set_cons_succ])
        refine wpAnyH_ready (rs := [7]) (by kernel_rfl) (by simp) ?_
        refine AllReadyH.cons rfl (fun K hK => ?_) AllReadyH.nil
        go_simp
        (go_at_call 19; go_must (with_reducible refine (identity_SubjectN (some ⟨b5, o5, none⟩) c2 l.length l who ((fr : Int) - 1 - (r8 : Int)) _ HS8.out rfl (by omega) HSN.out (by omega) (by omega)).mono ?_); rintro e w9 ⟨⟨o9, A9, c9, ho9, rfl, hs9⟩, hb9⟩; obtain ⟨k9, _, _⟩ := keepB hb9 w4.heap.size hzB8; have HO9 := Lib.hid ho9; clear ho9)
        go_wp2_with fail
        refine hK.out _ _ ⟨?_, ?_, ?_, ?_⟩ (fun hHeld => ?_)
        iterate 4 (simp only [*])
        clear hK K
        (try simp only [Act.put, List.getElem_toArray, List.getElem_cons_zero, List.getElem_cons_succ, List.setIfInBounds_toArray, List.set_cons_zero, List.set_cons_succ])
        refine wpAnyH_take (i := 8) (v := ?_) rfl (by kernel_rfl) (by kernel_rfl) (by kernel_rfl) (fun _ _ _ h => h) (Or.inl ⟨by kernel_rfl, ?_⟩) hHeld ?_
        rotate_left
        · (intro w hSw; (try dsimp only at hSw); go_simp; first | done | with_reducible rfl)
        (try simp only [Act.put, List.getElem_toArray, List.getElem_cons_zero, List.getElem_cons_succ, List.setIfInBounds_toArray, List.set_cons_zero, List.set_cons_succ])
        refine wpAnyH_done (by kernel_rfl) ?_ _
        have hx9 := below_next hx8 hb9
        have HS9 := Lib.hid (HS8.out.next hb9)
        have HK9 := Lib.hid (HK8.out.below hb9)
        have hB9 : Blk w9 w4.heap.size 27 who.cells.toArray := HB8.out.below hb9 hzB8
        have HO69 := Lib.hid (HO68.out.next hb9)
        have HO79 := Lib.hid (HO78.out.next hb9)
        have HSO9 := Lib.hid hs9
        clear hHeld k80 k81 k82 k83 k9 HS8 HK8 HO68 HO78 hs9
        obtain ⟨p0, p1, p2, p3⟩ := Ident.blk hB9
        have hzB9 := hB9.lt
        have HB9 := Lib.hid hB9
        clear hB9
        go_wp2_with fail
        refine wp_region_held_drew (S := (fun w' => w'.cell? ⟨w4.heap.size, 0, none⟩ = some (.string who.ns) ∧ w'.cell? ⟨w4.heap.size, 1, none⟩ = some (.int .i64 who.val.kind) ∧ w'.cell? ⟨w4.heap.size, 2, none⟩ = some (.int .i64 who.val.num) ∧ w'.cell? ⟨w4.heap.size, 3, none⟩ = some (.string who.val.text))) (by kernel_rfl) ⟨p0, p1, p2, p3⟩ (fun hHeld => ?_)
        refine wpAnyH_take (i := 0) (v := ?_) rfl (by kernel_rfl) (by kernel_rfl) (by kernel_rfl) (fun _ _ _ h => h) (Or.inl ⟨by kernel_rfl, ?_⟩) hHeld ?_
        rotate_left
        · (intro w hSw; (try dsimp only at hSw); go_simp; first | done | with_reducible rfl)
        (try simp only [Act.put, List.getElem_toArray, List.getElem_cons_zero, List.getElem_cons_succ, List.setIfInBounds_toArray, List.set_cons_zero, List.set_cons_succ])
        refine wpAnyH_take (i := 1) (v := ?_) rfl (by kernel_rfl) (by kernel_rfl) (by kernel_rfl) (fun _ _ _ h => h) (Or.inl ⟨by kernel_rfl, ?_⟩) hHeld ?_
        rotate_left
        · (intro w hSw; (try dsimp only at hSw); go_simp; first | done | with_reducible rfl)
        (try simp only [Act.put, List.getElem_toArray, List.getElem_cons_zero, List.getElem_cons_succ, List.setIfInBounds_toArray, List.set_cons_zero, List.set_cons_succ])
        refine wpAnyH_take (i := 2) (v := ?_) rfl (by kernel_rfl) (by kernel_rfl) (by kernel_rfl) (fun _ _ _ h => h) (Or.inl ⟨by kernel_rfl, ?_⟩) hHeld ?_
        rotate_left
        · (intro w hSw; (try dsimp only at hSw); go_simp; first | done | with_reducible rfl)
        (try simp only [Act.put, List.getElem_toArray, List.getElem_cons_zero, List.getElem_cons_succ, List.setIfInBounds_toArray, List.set_cons_zero, List.set_cons_succ])
        refine wpAnyH_take (i := 3) (v := ?_) rfl (by kernel_rfl) (by kernel_rfl) (by kernel_rfl) (fun _ _ _ h => h) (Or.inl ⟨by kernel_rfl, ?_⟩) hHeld ?_
        rotate_left
        · (intro w hSw; (try dsimp only at hSw); go_simp; first | done | with_reducible rfl)
        (try simp only [Act.put, List.getElem_toArray, List.getElem_cons_zero, List.getElem_cons_succ, List.setIfInBounds_toArray, List.set_cons_zero, List.set_cons_succ])
        refine wpAnyH_ready (rs := [4]) (by kernel_rfl) (by simp) ?_
        refine AllReadyH.cons rfl (fun K hK => ?_) AllReadyH.nil
        go_simp
        (go_at_call 18; (refine (tape_Next g b 10 _ HK9.out.drew (by omega) (by omega)).mono ?_); rintro e w10 ⟨r10, rfl, hr10, hk10, hg10⟩; have hr10' : r10 < 10 := (by rcases hr10 with h | h <;> omega); have hB10 : Blk w10 w4.heap.size 27 who.cells.toArray := Blk.grown (by exact HB9.out) hg10 (fun e => by injection e with e; omega); obtain ⟨k100, k101, k102, k103⟩ := Ident.blk hB10; have HB10 := Lib.hid hB10; clear hB10)
        go_wp2_with fail
        refine hK.out _ _ ⟨?_, ?_, ?_, ?_⟩ (fun hHeld => ?_)
        iterate 4 (simp only [*])
        clear hK K
        (try simp only [Act.put, List.getElem_toArray, List.getElem_cons_zero, List.getElem_cons_succ, List.setIfInBounds_toArray, List.set_cons_zero, List.set_cons_succ])
        have hx10 : Below w.heap.size w w10 := Below.grown hx9.drew hg10 hx9.size (fun q e => by injection e with e; omega)
        have HS10 : Hid (SliceIs w10 w10.heap.size Link.cells 10 (some ⟨b5, o5, none⟩) l) := SliceIs.grown (w := w9.drew) HS9.out hg10 HNE.out
        have HO610 : Hid (SliceIs w10 w10.heap.size Ident.cells 4 A6 o6) := SliceIs.grownT (w := w9.drew) HO69.out HK9.out.drew hg10
        have HO710 : Hid (SliceIs w10 w10.heap.size Ident.cells 4 A7 o7) := SliceIs.grownT (w := w9.drew) HO79.out HK9.out.drew hg10
        have HO910 : Hid (SliceIs w10 w10.heap.size Ident.cells 4 A9 o9) := SliceIs.grownT (w := w9.drew) HSO9.out HK9.out.drew hg10
        have hzB10 := HB10.out.lt
        have hw3 : IntKind.i64.wrap ((fr : Int) + (r10 : Int)) = (fr : Int) + (r10 : Int) := wrap_in _ (by omega) (by omega)
        clear p0 p1 p2 p3 HS9 HK9 HO69 HO79 HSO9 HB9 hk10
        refine wpAnyH_take (i := 5) (v := ?_) rfl (by kernel_rfl) (by kernel_rfl) (by kernel_rfl) (fun _ _ _ h => h) (Or.inl ⟨by kernel_rfl, ?_⟩) hHeld ?_
        rotate_left
        · (intro w hSw; (try dsimp only at hSw); go_simp; first | done | with_reducible rfl)
        (try simp only [Act.put, List.getElem_toArray, List.getElem_cons_zero, List.getElem_cons_succ, List.setIfInBounds_toArray, List.set_cons_zero, List.set_cons_succ])
        refine wpAnyH_ready (rs := [6]) (by kernel_rfl) (by simp) ?_
        refine AllReadyH.cons rfl (fun K hK => ?_) AllReadyH.nil
        go_simp
        (go_at_call 13; go_must (with_reducible refine (identity_AtN (some ⟨b5, o5, none⟩) c2 l.length l who ((fr : Int) + (r10 : Int)) _ HS10.out rfl (by omega) HSN.out (by omega) (by omega)).mono ?_); rintro e w11 ⟨⟨o11, A11, c11, ho11, rfl, hs11⟩, hb11⟩; obtain ⟨k11, _, _⟩ := keepB hb11 w4.heap.size hzB10; have HO11 := Lib.hid ho11; clear ho11)
        go_wp2_with fail
        refine hK.out _ _ ⟨?_, ?_, ?_, ?_⟩ (fun hHeld => ?_)
        iterate 4 (simp only [*])
        clear hK K
        (try simp only [Act.put, List.getElem_toArray, List.getElem_cons_zero, List.getElem_cons_succ, List.setIfInBounds_toArray, List.set_cons_zero, List.set_cons_succ])
        refine wpAnyH_take (i := 7) (v := ?_) rfl (by kernel_rfl) (by kernel_rfl) (by kernel_rfl) (fun _ _ _ h => h) (Or.inl ⟨by kernel_rfl, ?_⟩) hHeld ?_
        rotate_left
        · (intro w hSw; (try dsimp only at hSw); go_simp; first | done | with_reducible rfl)
        (try simp only [Act.put, List.getElem_toArray, List.getElem_cons_zero, List.getElem_cons_succ, List.setIfInBounds_toArray, List.set_cons_zero, List.set_cons_succ])
        refine wpAnyH_done (by kernel_rfl) ?_ _
        have hx11 := below_next hx10 hb11
        have HO611 := Lib.hid (HO610.out.next hb11)
        have HO711 := Lib.hid (HO710.out.next hb11)
        have HO911 := Lib.hid (HO910.out.next hb11)
        have HSO11 := Lib.hid hs11
        have hB11 : Blk w11 w4.heap.size 27 who.cells.toArray := HB10.out.below hb11 hzB10
        have HI1 := Lib.hid (subj_take HV.out HVW.out HO7.out HO6.out (after_exit HV.out hlt (by omega)))
        have HI2 := Lib.hid (subj_earlier HV.out HVW.out HO6.out HO9.out (by omega))
        have HI3 := Lib.hid (subj_at HV.out HVW.out HO11.out HO6.out (by omega))
        have HI4 := Lib.hid (subj_self HV.out HVW.out HO6.out)
        have hn6 := subject_len HO6.out
        have hn7 := subject_len HO7.out
        have hn9 := subject_len HO9.out
        have hn11 := at_len' HO11.out
        clear hHeld k100 k101 k102 k103 k11 HS10 HO610 HO710 HO910 hs11
        obtain ⟨p0, p1, p2, p3⟩ := Ident.blk hB11
        have hzB11 := hB11.lt
        clear hB11
        go_wp2_with fail
        refine (within_yes A7 A6 c7 c6 o7 o6 _ HO711.out HO611.out hn7 hn6 HI1.out).mono ?_
        rintro e w12 ⟨rfl, hb12⟩
        go_wp2_with fail
        refine (within_yes A6 A9 c6 c9 o6 o9 _ (HO611.out.next hb12) (HO911.out.next hb12) hn6 hn9 HI2.out).mono ?_
        rintro e w13 ⟨rfl, hb13⟩
        have hb13' := below_next hb12 hb13
        go_wp2_with fail
        refine (within_yes A11 A6 c11 c6 o11 o6 _ (HSO11.out.next hb13') (HO611.out.next hb13') hn11 hn6 HI3.out).mono ?_
        rintro e w14 ⟨rfl, hb14⟩
        have hb14' := below_next hb13' hb14
        obtain ⟨k14, _, _⟩ := keepB hb14' w4.heap.size hzB11
        go_wp2_with fail
        refine (ref16_HasId (A := A6) (c := c6) (l := o6) who (HO611.out.next hb14') hn6 HI4.out).mono ?_
        rintro e w15 ⟨rfl, hb15⟩
        have hb15' := below_next hb14' hb15
        go_wp2_with fail
        refine (awake_any _).mono ?_
        rintro e w16 ⟨rfl, hb16⟩
        have hb16' := below_next hb15' hb16
        go_wp2_with fail
        go_ret
        exact ⟨rfl, below_next hx11 hb16'⟩
    · have hlt1 : decide (m < l.length) = false := by simpa using hlt
      go_wp2_with fail
      with_reducible refine (tape_Next g b ((l.length : Int) - (m : Int) + 1) _ (HK4.out.alloc _) (by omega) (by omega)).mono ?_
      rintro e w5 ⟨r5, rfl, hr5, hk5, hg5⟩
      have hr5' : m + r5 ≤ l.length := by rcases hr5 with h | h <;> omega
      have hB5 : Blk w5 w4.heap.size 27 who.cells.toArray := Blk.grown (Blk.new _ _ _) hg5 (fun e => by injection e with e; omega)
      have hx5 : Below w.heap.size w w5 := Below.grown (hx4.alloc hx4.size _) hg5 (by have := hx4.size; simp; omega) (fun q e => by injection e with e; omega)
      have HS5 : Hid (SliceIs w5 w5.heap.size Link.cells 10 (A2) l) := (HS4.out.next ((Below.refl _ _).alloc (Nat.le_refl _) _)).grown hg5 HNE.out
      have HK5 := Lib.hid hk5
      obtain ⟨p0, p1, p2, p3⟩ := Ident.blk hB5
      have hzB := hB5.lt
      have HB5 := Lib.hid hB5
      clear hk5 hB5 HS4 HK4 hx4 hr5
      go_wp2_with fail
      refine (identity_SubjectN (A2) c2 l.length l who fr _ HS5.out rfl (by omega) HSN.out (by omega) (by omega)).mono ?_
      rintro e w6 ⟨⟨o6, A6, c6, ho6, rfl, hs6⟩, hb6⟩
      have hx6 := below_next hx5 hb6
      have HS6 := Lib.hid (HS5.out.next hb6)
      have HK6 := Lib.hid (HK5.out.below hb6)
      have hB6 : Blk w6 w4.heap.size 27 who.cells.toArray := HB5.out.below hb6 hzB
      have HO6 := Lib.hid ho6
      have HSO6 := Lib.hid hs6
      clear p0 p1 p2 p3 ho6 hs6 HS5 HK5 HB5
      obtain ⟨p0, p1, p2, p3⟩ := Ident.blk hB6
      have hzB6 := hB6.lt
      have HB6 := Lib.hid hB6
      clear hB6
      have hcut1 : (0 : Int) ≤ (m : Int) + (r5 : Int) := by omega
      have hcut2 : (m : Int) + (r5 : Int) ≤ (c2 : Int) := by omega
      go_wp2_with fail
      refine wp_region_held_drew (S := (fun w' => w'.cell? ⟨w4.heap.size, 0, none⟩ = some (.string who.ns) ∧ w'.cell? ⟨w4.heap.size, 1, none⟩ = some (.int .i64 who.val.kind) ∧ w'.cell? ⟨w4.heap.size, 2, none⟩ = some (.int .i64 who.val.num) ∧ w'.cell? ⟨w4.heap.size, 3, none⟩ = some (.string who.val.text))) (by kernel_rfl) ⟨p0, p1, p2, p3⟩ (fun hHeld => ?_)
      refine wpAnyH_take (i := 0) (v := ?_) rfl (by kernel_rfl) (by kernel_rfl) (by kernel_rfl) (fun _ _ _ h => h) (Or.inl ⟨by kernel_rfl, ?_⟩) hHeld ?_
      rotate_left
      · (intro w hSw; (try dsimp only at hSw); go_simp; first | done | with_reducible rfl)
      (try simp only [Act.put, List.getElem_toArray, List.getElem_cons_zero, List.getElem_cons_succ, List.setIfInBounds_toArray, List.set_cons_zero, List.set_cons_succ])
      refine wpAnyH_take (i := 1) (v := ?_) rfl (by kernel_rfl) (by kernel_rfl) (by kernel_rfl) (fun _ _ _ h => h) (Or.inl ⟨by kernel_rfl, ?_⟩) hHeld ?_
      rotate_left
      · (intro w hSw; (try dsimp only at hSw); go_simp; first | done | with_reducible rfl)
      (try simp only [Act.put, List.getElem_toArray, List.getElem_cons_zero, List.getElem_cons_succ, List.setIfInBounds_toArray, List.set_cons_zero, List.set_cons_succ])
      refine wpAnyH_take (i := 2) (v := ?_) rfl (by kernel_rfl) (by kernel_rfl) (by kernel_rfl) (fun _ _ _ h => h) (Or.inl ⟨by kernel_rfl, ?_⟩) hHeld ?_
      rotate_left
      · (intro w hSw; (try dsimp only at hSw); go_simp; first | done | with_reducible rfl)
      (try simp only [Act.put, List.getElem_toArray, List.getElem_cons_zero, List.getElem_cons_succ, List.setIfInBounds_toArray, List.set_cons_zero, List.set_cons_succ])
      refine wpAnyH_take (i := 3) (v := ?_) rfl (by kernel_rfl) (by kernel_rfl) (by kernel_rfl) (fun _ _ _ h => h) (Or.inl ⟨by kernel_rfl, ?_⟩) hHeld ?_
      rotate_left
      · (intro w hSw; (try dsimp only at hSw); go_simp; first | done | with_reducible rfl)
      (try simp only [Act.put, List.getElem_toArray, List.getElem_cons_zero, List.getElem_cons_succ, List.setIfInBounds_toArray, List.set_cons_zero, List.set_cons_succ])
      refine wpAnyH_take (i := 4) (v := ?_) rfl (by kernel_rfl) (by kernel_rfl) (by kernel_rfl) (fun _ _ _ h => h) (Or.inl ⟨by kernel_rfl, ?_⟩) hHeld ?_
      rotate_left
      · (intro w hSw; (try dsimp only at hSw); go_simp; first | done | with_reducible rfl)
      (try simp only [Act.put, List.getElem_toArray, List.getElem_cons_zero, List.getElem_cons_succ, List.setIfInBounds_toArray, List.set_cons_zero, List.set_cons_succ])
      refine wpAnyH_ready (rs := [5]) (by kernel_rfl) (by simp) ?_
      refine AllReadyH.cons rfl (fun K hK => ?_) AllReadyH.nil
      go_simp
      (go_at_call 19; (refine (identity_SubjectN (A2) c2 (m + r5) (l.take (m + r5)) who fr _ ((HS6.out.take _).next (by repeat (first | with_reducible exact Below.refl _ _ | with_reducible assumption | (with_reducible refine Below.setCell ?_ ?_ _; rotate_left; focus (first | exact Nat.le_refl _ | exact Nat.le_add_right _ _ | (simp; done) | (simp; omega) | omega)) | (with_reducible refine Below.alloc ?_ ?_ _; rotate_left; focus (first | exact Nat.le_refl _ | exact Nat.le_add_right _ _ | (simp; done) | (simp; omega) | omega)) | with_reducible refine Below.drew ?_ | with_reducible refine below_drewN ?_ _ | (with_reducible refine below_nextN ?_ (by with_reducible assumption) ?_; rotate_left; focus (first | exact Nat.le_refl _ | exact Nat.le_add_right _ _ | (simp; done) | (simp; omega) | omega))))) (by simp; omega) (by omega) (fun x hx => HSN.out x (List.mem_of_mem_take hx)) (by omega) (by omega)).mono ?_); rintro e w7 ⟨⟨o7, A7, c7, ho7, rfl, hs7⟩, hb7⟩; have hx7 : Below w6.heap.size w6 w7 := (by repeat (first | with_reducible exact Below.refl _ _ | with_reducible assumption | (with_reducible refine Below.setCell ?_ ?_ _; rotate_left; focus (first | exact Nat.le_refl _ | exact Nat.le_add_right _ _ | (simp; done) | (simp; omega) | omega)) | (with_reducible refine Below.alloc ?_ ?_ _; rotate_left; focus (first | exact Nat.le_refl _ | exact Nat.le_add_right _ _ | (simp; done) | (simp; omega) | omega)) | with_reducible refine Below.drew ?_ | with_reducible refine below_drewN ?_ _ | (with_reducible refine below_nextN ?_ (by with_reducible assumption) ?_; rotate_left; focus (first | exact Nat.le_refl _ | exact Nat.le_add_right _ _ | (simp; done) | (simp; omega) | omega)))); obtain ⟨k7, _, _⟩ := keepB hx7 w4.heap.size hzB6; have HO7 := Lib.hid ho7; clear ho7)
      go_wp2_with fail
      refine hK.out _ _ ⟨?_, ?_, ?_, ?_⟩ (fun hHeld => ?_)
      iterate 4 (simp only [*])
      clear hK K
      (try simp only [Act.put, List.getElem_toArray, List.getElem_cons_zero, List.getElem_cons_succ, List.setIfInBounds_toArray, List.set_cons_zero, List.set_cons_succ])
      refine wpAnyH_take (i := 6) (v := ?_) rfl (by kernel_rfl) (by kernel_rfl) (by kernel_rfl) (fun _ _ _ h => h) (Or.inl ⟨by kernel_rfl, ?_⟩) hHeld ?_
      rotate_left
      · (intro w hSw; (try dsimp only at hSw); go_simp; first | done | with_reducible rfl)
      (try simp only [Act.put, List.getElem_toArray, List.getElem_cons_zero, List.getElem_cons_succ, List.setIfInBounds_toArray, List.set_cons_zero, List.set_cons_succ])
      refine wpAnyH_done (by kernel_rfl) ?_ _
      have hxx7 := below_next hx6 hx7
      have hw1 : IntKind.i64.wrap ((fr : Int) - 1) = (fr : Int) - 1 := wrap_in _ (by omega) (by omega)
      have HS7 := Lib.hid (HS6.out.next hx7)
      have HK7 := Lib.hid (HK6.out.below hx7)
      have hB7 : Blk w7 w4.heap.size 27 who.cells.toArray := HB6.out.below hx7 hzB6
      have HSO67 := Lib.hid (HSO6.out.next hx7)
      have HSO7 := Lib.hid hs7
      clear hHeld p0 p1 p2 p3 HS6 HK6 HSO6 hs7 k7
      obtain ⟨p0, p1, p2, p3⟩ := Ident.blk hB7
      have hzB7 := hB7.lt
      have HB7 := Lib.hid hB7
      clear hB7
      go_wp2_with fail
      refine wp_region_held_drew (S := (fun w' => w'.cell? ⟨w4.heap.size, 0, none⟩ = some (.string who.ns) ∧ w'.cell? ⟨w4.heap.size, 1, none⟩ = some (.int .i64 who.val.kind) ∧ w'.cell? ⟨w4.heap.size, 2, none⟩ = some (.int .i64 who.val.num) ∧ w'.cell? ⟨w4.heap.size, 3, none⟩ = some (.string who.val.text))) (by kernel_rfl) ⟨p0, p1, p2, p3⟩ (fun hHeld => ?_)
      refine wpAnyH_take (i := 0) (v := ?_) rfl (by kernel_rfl) (by kernel_rfl) (by kernel_rfl) (fun _ _ _ h => h) (Or.inl ⟨by kernel_rfl, ?_⟩) hHeld ?_
      rotate_left
      · (intro w hSw; (try dsimp only at hSw); go_simp; first | done | with_reducible rfl)
      (try simp only [Act.put, List.getElem_toArray, List.getElem_cons_zero, List.getElem_cons_succ, List.setIfInBounds_toArray, List.set_cons_zero, List.set_cons_succ])
      refine wpAnyH_take (i := 1) (v := ?_) rfl (by kernel_rfl) (by kernel_rfl) (by kernel_rfl) (fun _ _ _ h => h) (Or.inl ⟨by kernel_rfl, ?_⟩) hHeld ?_
      rotate_left
      · (intro w hSw; (try dsimp only at hSw); go_simp; first | done | with_reducible rfl)
      (try simp only [Act.put, List.getElem_toArray, List.getElem_cons_zero, List.getElem_cons_succ, List.setIfInBounds_toArray, List.set_cons_zero, List.set_cons_succ])
      refine wpAnyH_take (i := 2) (v := ?_) rfl (by kernel_rfl) (by kernel_rfl) (by kernel_rfl) (fun _ _ _ h => h) (Or.inl ⟨by kernel_rfl, ?_⟩) hHeld ?_
      rotate_left
      · (intro w hSw; (try dsimp only at hSw); go_simp; first | done | with_reducible rfl)
      (try simp only [Act.put, List.getElem_toArray, List.getElem_cons_zero, List.getElem_cons_succ, List.setIfInBounds_toArray, List.set_cons_zero, List.set_cons_succ])
      refine wpAnyH_take (i := 3) (v := ?_) rfl (by kernel_rfl) (by kernel_rfl) (by kernel_rfl) (fun _ _ _ h => h) (Or.inl ⟨by kernel_rfl, ?_⟩) hHeld ?_
      rotate_left
      · (intro w hSw; (try dsimp only at hSw); go_simp; first | done | with_reducible rfl)
      (try simp only [Act.put, List.getElem_toArray, List.getElem_cons_zero, List.getElem_cons_succ, List.setIfInBounds_toArray, List.set_cons_zero, List.set_cons_succ])
      refine wpAnyH_take (i := 4) (v := ?_) rfl (by kernel_rfl) (by kernel_rfl) (by kernel_rfl) (fun _ _ _ h => h) (Or.inl ⟨by kernel_rfl, ?_⟩) hHeld ?_
      rotate_left
      · (intro w hSw; (try dsimp only at hSw); go_simp; first | done | with_reducible rfl)
      (try simp only [Act.put, List.getElem_toArray, List.getElem_cons_zero, List.getElem_cons_succ, List.setIfInBounds_toArray, List.set_cons_zero, List.set_cons_succ])
      refine wpAnyH_ready (rs := [5]) (by kernel_rfl) (by simp) ?_
      refine AllReadyH.cons rfl (fun K hK => ?_) AllReadyH.nil
      go_simp
      (go_at_call 18; (refine (tape_Next g b 5 _ HK7.out.drew (by omega) (by omega)).mono ?_); rintro e w8 ⟨r8, rfl, hr8, hk8, hg8⟩; have hr8' : r8 < 5 := (by rcases hr8 with h | h <;> omega); have hB8 : Blk w8 w4.heap.size 27 who.cells.toArray := Blk.grown (by exact HB7.out) hg8 (fun e => by injection e with e; omega); obtain ⟨k80, k81, k82, k83⟩ := Ident.blk hB8; have HB8 := Lib.hid hB8; clear hB8)
      go_wp2_with fail
      refine hK.out _ _ ⟨?_, ?_, ?_, ?_⟩ (fun hHeld => ?_)
      iterate 4 (simp only [*])
      clear hK K
      (try simp only [Act.put, List.getElem_toArray, List.getElem_cons_zero, List.getElem_cons_succ, List.setIfInBounds_toArray, List.set_cons_zero, List.set_cons_succ])
      have hx8 : Below w.heap.size w w8 := Below.grown hxx7.drew hg8 hxx7.size (fun q e => by injection e with e; omega)
      have HS8 : Hid (SliceIs w8 w8.heap.size Link.cells 10 (A2) l) := SliceIs.grown (w := w7.drew) HS7.out hg8 HNE.out
      have HK8 := Lib.hid hk8
      have HO68 : Hid (SliceIs w8 w8.heap.size Ident.cells 4 A6 o6) := SliceIs.grownT (w := w7.drew) HSO67.out HK7.out.drew hg8
      have HO78 : Hid (SliceIs w8 w8.heap.size Ident.cells 4 A7 o7) := SliceIs.grownT (w := w7.drew) HSO7.out HK7.out.drew hg8
      have hzB8 := HB8.out.lt
      clear p0 p1 p2 p3 hk8 HS7 HK7 HSO67 HSO7 HB7
      have hw2 : IntKind.i64.wrap ((fr : Int) - 1 - (r8 : Int)) = (fr : Int) - 1 - (r8 : Int) := wrap_in _ (by omega) (by omega)
      refine wpAnyH_take (i := 6) (v := ?_) rfl (by kernel_rfl) (by kernel_rfl) (by kernel_rfl) (fun _ _ _ h => h) (Or.inl ⟨by kernel_rfl, ?_⟩) hHeld ?_
      rotate_left
      · (intro w hSw; (try dsimp only at hSw); go_simp; first | done | with_reducible rfl)
      (try simp only [Act.put, List.getElem_toArray, List.getElem_cons_zero, List.getElem_cons_succ, List.setIfInBounds_toArray, List.set_cons_zero, List.set_cons_succ])
      refine wpAnyH_ready (rs := [7]) (by kernel_rfl) (by simp) ?_
      refine AllReadyH.cons rfl (fun K hK => ?_) AllReadyH.nil
      go_simp
      (go_at_call 19; go_must (with_reducible refine (identity_SubjectN (A2) c2 l.length l who ((fr : Int) - 1 - (r8 : Int)) _ HS8.out rfl (by omega) HSN.out (by omega) (by omega)).mono ?_); rintro e w9 ⟨⟨o9, A9, c9, ho9, rfl, hs9⟩, hb9⟩; obtain ⟨k9, _, _⟩ := keepB hb9 w4.heap.size hzB8; have HO9 := Lib.hid ho9; clear ho9)
      go_wp2_with fail
      refine hK.out _ _ ⟨?_, ?_, ?_, ?_⟩ (fun hHeld => ?_)
      iterate 4 (simp only [*])
      clear hK K
      (try simp only [Act.put, List.getElem_toArray, List.getElem_cons_zero, List.getElem_cons_succ, List.setIfInBounds_toArray, List.set_cons_zero, List.set_cons_succ])
      refine wpAnyH_take (i := 8) (v := ?_) rfl (by kernel_rfl) (by kernel_rfl) (by kernel_rfl) (fun _ _ _ h => h) (Or.inl ⟨by kernel_rfl, ?_⟩) hHeld ?_
      rotate_left
      · (intro w hSw; (try dsimp only at hSw); go_simp; first | done | with_reducible rfl)
      (try simp only [Act.put, List.getElem_toArray, List.getElem_cons_zero, List.getElem_cons_succ, List.setIfInBounds_toArray, List.set_cons_zero, List.set_cons_succ])
      refine wpAnyH_done (by kernel_rfl) ?_ _
      have hx9 := below_next hx8 hb9
      have HS9 := Lib.hid (HS8.out.next hb9)
      have HK9 := Lib.hid (HK8.out.below hb9)
      have hB9 : Blk w9 w4.heap.size 27 who.cells.toArray := HB8.out.below hb9 hzB8
      have HO69 := Lib.hid (HO68.out.next hb9)
      have HO79 := Lib.hid (HO78.out.next hb9)
      have HSO9 := Lib.hid hs9
      clear hHeld k80 k81 k82 k83 k9 HS8 HK8 HO68 HO78 hs9
      obtain ⟨p0, p1, p2, p3⟩ := Ident.blk hB9
      have hzB9 := hB9.lt
      have HB9 := Lib.hid hB9
      clear hB9
      go_wp2_with fail
      refine wp_region_held_drew (S := (fun w' => w'.cell? ⟨w4.heap.size, 0, none⟩ = some (.string who.ns) ∧ w'.cell? ⟨w4.heap.size, 1, none⟩ = some (.int .i64 who.val.kind) ∧ w'.cell? ⟨w4.heap.size, 2, none⟩ = some (.int .i64 who.val.num) ∧ w'.cell? ⟨w4.heap.size, 3, none⟩ = some (.string who.val.text))) (by kernel_rfl) ⟨p0, p1, p2, p3⟩ (fun hHeld => ?_)
      refine wpAnyH_take (i := 0) (v := ?_) rfl (by kernel_rfl) (by kernel_rfl) (by kernel_rfl) (fun _ _ _ h => h) (Or.inl ⟨by kernel_rfl, ?_⟩) hHeld ?_
      rotate_left
      · (intro w hSw; (try dsimp only at hSw); go_simp; first | done | with_reducible rfl)
      (try simp only [Act.put, List.getElem_toArray, List.getElem_cons_zero, List.getElem_cons_succ, List.setIfInBounds_toArray, List.set_cons_zero, List.set_cons_succ])
      refine wpAnyH_take (i := 1) (v := ?_) rfl (by kernel_rfl) (by kernel_rfl) (by kernel_rfl) (fun _ _ _ h => h) (Or.inl ⟨by kernel_rfl, ?_⟩) hHeld ?_
      rotate_left
      · (intro w hSw; (try dsimp only at hSw); go_simp; first | done | with_reducible rfl)
      (try simp only [Act.put, List.getElem_toArray, List.getElem_cons_zero, List.getElem_cons_succ, List.setIfInBounds_toArray, List.set_cons_zero, List.set_cons_succ])
      refine wpAnyH_take (i := 2) (v := ?_) rfl (by kernel_rfl) (by kernel_rfl) (by kernel_rfl) (fun _ _ _ h => h) (Or.inl ⟨by kernel_rfl, ?_⟩) hHeld ?_
      rotate_left
      · (intro w hSw; (try dsimp only at hSw); go_simp; first | done | with_reducible rfl)
      (try simp only [Act.put, List.getElem_toArray, List.getElem_cons_zero, List.getElem_cons_succ, List.setIfInBounds_toArray, List.set_cons_zero, List.set_cons_succ])
      refine wpAnyH_take (i := 3) (v := ?_) rfl (by kernel_rfl) (by kernel_rfl) (by kernel_rfl) (fun _ _ _ h => h) (Or.inl ⟨by kernel_rfl, ?_⟩) hHeld ?_
      rotate_left
      · (intro w hSw; (try dsimp only at hSw); go_simp; first | done | with_reducible rfl)
      (try simp only [Act.put, List.getElem_toArray, List.getElem_cons_zero, List.getElem_cons_succ, List.setIfInBounds_toArray, List.set_cons_zero, List.set_cons_succ])
      refine wpAnyH_ready (rs := [4]) (by kernel_rfl) (by simp) ?_
      refine AllReadyH.cons rfl (fun K hK => ?_) AllReadyH.nil
      go_simp
      (go_at_call 18; (refine (tape_Next g b 10 _ HK9.out.drew (by omega) (by omega)).mono ?_); rintro e w10 ⟨r10, rfl, hr10, hk10, hg10⟩; have hr10' : r10 < 10 := (by rcases hr10 with h | h <;> omega); have hB10 : Blk w10 w4.heap.size 27 who.cells.toArray := Blk.grown (by exact HB9.out) hg10 (fun e => by injection e with e; omega); obtain ⟨k100, k101, k102, k103⟩ := Ident.blk hB10; have HB10 := Lib.hid hB10; clear hB10)
      go_wp2_with fail
      refine hK.out _ _ ⟨?_, ?_, ?_, ?_⟩ (fun hHeld => ?_)
      iterate 4 (simp only [*])
      clear hK K
      (try simp only [Act.put, List.getElem_toArray, List.getElem_cons_zero, List.getElem_cons_succ, List.setIfInBounds_toArray, List.set_cons_zero, List.set_cons_succ])
      have hx10 : Below w.heap.size w w10 := Below.grown hx9.drew hg10 hx9.size (fun q e => by injection e with e; omega)
      have HS10 : Hid (SliceIs w10 w10.heap.size Link.cells 10 (A2) l) := SliceIs.grown (w := w9.drew) HS9.out hg10 HNE.out
      have HO610 : Hid (SliceIs w10 w10.heap.size Ident.cells 4 A6 o6) := SliceIs.grownT (w := w9.drew) HO69.out HK9.out.drew hg10
      have HO710 : Hid (SliceIs w10 w10.heap.size Ident.cells 4 A7 o7) := SliceIs.grownT (w := w9.drew) HO79.out HK9.out.drew hg10
      have HO910 : Hid (SliceIs w10 w10.heap.size Ident.cells 4 A9 o9) := SliceIs.grownT (w := w9.drew) HSO9.out HK9.out.drew hg10
      have hzB10 := HB10.out.lt
      have hw3 : IntKind.i64.wrap ((fr : Int) + (r10 : Int)) = (fr : Int) + (r10 : Int) := wrap_in _ (by omega) (by omega)
      clear p0 p1 p2 p3 HS9 HK9 HO69 HO79 HSO9 HB9 hk10
      refine wpAnyH_take (i := 5) (v := ?_) rfl (by kernel_rfl) (by kernel_rfl) (by kernel_rfl) (fun _ _ _ h => h) (Or.inl ⟨by kernel_rfl, ?_⟩) hHeld ?_
      rotate_left
      · (intro w hSw; (try dsimp only at hSw); go_simp; first | done | with_reducible rfl)
      (try simp only [Act.put, List.getElem_toArray, List.getElem_cons_zero, List.getElem_cons_succ, List.setIfInBounds_toArray, List.set_cons_zero, List.set_cons_succ])
      refine wpAnyH_ready (rs := [6]) (by kernel_rfl) (by simp) ?_
      refine AllReadyH.cons rfl (fun K hK => ?_) AllReadyH.nil
      go_simp
      (go_at_call 13; go_must (with_reducible refine (identity_AtN (A2) c2 l.length l who ((fr : Int) + (r10 : Int)) _ HS10.out rfl (by omega) HSN.out (by omega) (by omega)).mono ?_); rintro e w11 ⟨⟨o11, A11, c11, ho11, rfl, hs11⟩, hb11⟩; obtain ⟨k11, _, _⟩ := keepB hb11 w4.heap.size hzB10; have HO11 := Lib.hid ho11; clear ho11)
      go_wp2_with fail
      refine hK.out _ _ ⟨?_, ?_, ?_, ?_⟩ (fun hHeld => ?_)
      iterate 4 (simp only [*])
      clear hK K
      (try simp only [Act.put, List.getElem_toArray, List.getElem_cons_zero, List.getElem_cons_succ, List.setIfInBounds_toArray, List.set_cons_zero, List.set_cons_succ])
      refine wpAnyH_take (i := 7) (v := ?_) rfl (by kernel_rfl) (by kernel_rfl) (by kernel_rfl) (fun _ _ _ h => h) (Or.inl ⟨by kernel_rfl, ?_⟩) hHeld ?_
      rotate_left
      · (intro w hSw; (try dsimp only at hSw); go_simp; first | done | with_reducible rfl)
      (try simp only [Act.put, List.getElem_toArray, List.getElem_cons_zero, List.getElem_cons_succ, List.setIfInBounds_toArray, List.set_cons_zero, List.set_cons_succ])
      refine wpAnyH_done (by kernel_rfl) ?_ _
      have hx11 := below_next hx10 hb11
      have HO611 := Lib.hid (HO610.out.next hb11)
      have HO711 := Lib.hid (HO710.out.next hb11)
      have HO911 := Lib.hid (HO910.out.next hb11)
      have HSO11 := Lib.hid hs11
      have hB11 : Blk w11 w4.heap.size 27 who.cells.toArray := HB10.out.below hb11 hzB10
      have HI1 := Lib.hid (subj_take HV.out HVW.out HO7.out HO6.out (fun i hi hmi => absurd hmi (by omega)))
      have HI2 := Lib.hid (subj_earlier HV.out HVW.out HO6.out HO9.out (by omega))
      have HI3 := Lib.hid (subj_at HV.out HVW.out HO11.out HO6.out (by omega))
      have HI4 := Lib.hid (subj_self HV.out HVW.out HO6.out)
      have hn6 := subject_len HO6.out
      have hn7 := subject_len HO7.out
      have hn9 := subject_len HO9.out
      have hn11 := at_len' HO11.out
      clear hHeld k100 k101 k102 k103 k11 HS10 HO610 HO710 HO910 hs11
      obtain ⟨p0, p1, p2, p3⟩ := Ident.blk hB11
      have hzB11 := hB11.lt
      clear hB11
      go_wp2_with fail
      refine (within_yes A7 A6 c7 c6 o7 o6 _ HO711.out HO611.out hn7 hn6 HI1.out).mono ?_
      rintro e w12 ⟨rfl, hb12⟩
      go_wp2_with fail
      refine (within_yes A6 A9 c6 c9 o6 o9 _ (HO611.out.next hb12) (HO911.out.next hb12) hn6 hn9 HI2.out).mono ?_
      rintro e w13 ⟨rfl, hb13⟩
      have hb13' := below_next hb12 hb13
      go_wp2_with fail
      refine (within_yes A11 A6 c11 c6 o11 o6 _ (HSO11.out.next hb13') (HO611.out.next hb13') hn11 hn6 HI3.out).mono ?_
      rintro e w14 ⟨rfl, hb14⟩
      have hb14' := below_next hb13' hb14
      obtain ⟨k14, _, _⟩ := keepB hb14' w4.heap.size hzB11
      go_wp2_with fail
      refine (ref16_HasId (A := A6) (c := c6) (l := o6) who (HO611.out.next hb14') hn6 HI4.out).mono ?_
      rintro e w15 ⟨rfl, hb15⟩
      have hb15' := below_next hb14' hb15
      go_wp2_with fail
      refine (awake_any _).mono ?_
      rintro e w16 ⟨rfl, hb16⟩
      have hb16' := below_next hb15' hb16
      go_wp2_with fail
      go_ret
      exact ⟨rfl, below_next hx11 hb16'⟩
end Go.Proofs.Ytoleifehijccmaa
