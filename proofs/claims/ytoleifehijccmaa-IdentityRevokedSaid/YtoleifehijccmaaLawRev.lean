/-
  The law IdentityRevoked.
-/
import Derived.Test.YtoleifehijccmaaRevM
import Derived.Deep.RegionLaw
import Derived.Deep.DeepCutAuto
import Derived.Deep.CutRange
namespace Go.Proofs.Ytoleifehijccmaa
set_option linter.unusedVariables false
open Go.RowKit

theorem wrap_inR (n : Int) (h1 : -1000000 ≤ n) (h2 : n ≤ 1000000) : IntKind.i64.wrap n = n := by
  simp [IntKind.wrap, IntKind.bits, IntKind.signed]
  omega
set_option maxRecDepth 100000 in
set_option maxHeartbeats 4000000 in
theorem revoked_walk (A : Option Addr) (c : Nat) (t : List Int) (w : World) (hl : SliceIs w w.heap.size intCells 1 A t) (hn : t.length * 8 ≤ 140737488351232) :
    Calls Try.prog 9 #[.slice A t.length c] w fun e w' => e = .returned (.bool true) ∧ Below w.heap.size w w' := by
  have hgt : Try.prog.eqGuardType Try.prog.depth 27 = false := by kernel_rfl
  have HL := Lib.hid hl
  clear hl
  go_enter Try.func9, Try.ntmps9
  go_wp2_with fail
  refine (tape_New A c t _ HL.out hn).mono ?_
  rintro e w1 ⟨⟨g, b, rfl, hg1, hb1, hk1⟩, hx1⟩
  have HK1 := Lib.hid hk1
  clear hk1
  go_wp2_with fail
  refine (tape_Links g b 7 _ HK1.out (by omega)).mono ?_
  rintro e w2 ⟨v2, l, s, rfl, hown2, hgen, hs4, hl8, hk2, hg2⟩
  obtain ⟨A2, c2, rfl, hc2, hsl2, hA2⟩ := hown2.slice link_len
  have hlt1 : g < w1.heap.size := HK1.out.ltg
  have hne2 : ∀ a, A2 = some a → some a.block ≠ some g := fun a ha e => by injection e with e; have := (hA2 a ha).1; omega
  have hval := hgen.links (by omega)
  obtain ⟨la, hla⟩ : ∃ la, lastOf 0 l = la := ⟨_, rfl⟩
  have hla1 : 0 ≤ la := by rw [← hla]; exact last_nonneg hval
  have hla2 : la ≤ 28 := by have := hgen.last; omega
  have HLA := Lib.hid hla
  have HV := Lib.hid hval
  have HSN := Lib.hid (valid_sane hval)
  have HK2 := Lib.hid hk2
  have HS2 := Lib.hid hsl2
  have HNE := Lib.hid hne2
  have hx2 : Below w.heap.size w w2 := Below.grown hx1 hg2 hx1.size (fun q e => by injection e with e; omega)
  have hgl2 := HK2.out.ltg
  clear hk2 hsl2 hne2 hval hgen hown2 hA2 HK1 HL hg2 hla hs4
  go_upto_if 19 with (fail)
  go_cut [5] from 17 to 26 (fun v5 wx => v5 = .int .i64 la ∧ w2 = wx)
  case first =>
    by_cases hl0 : 0 < l.length
    · obtain ⟨b5, o5, rfl, hb5, hc5⟩ := HS2.out.get (i := l.length - 1) (by omega)
      obtain ⟨_, _, s8, _⟩ := Link.cells10 hc5
      clear hc5
      rw [last_get hl0, HLA.out] at s8
      have hl0' : decide (0 < l.length) = true := by simpa using hl0
      have hcast : ((l.length : Int) - 1) = ((l.length - 1 : Nat) : Int) := by omega
      go_wp2_with fail
      go_meet
      exact ⟨rfl, rfl⟩
    · have hl0' : decide (0 < l.length) = false := by simpa using hl0
      have h0 : la = 0 := by
        rw [← HLA.out, List.length_eq_zero_iff.1 (by omega : l.length = 0)]
        rfl
      go_wp2_with fail
      go_meet
      exact ⟨by rw [h0], rfl⟩
  case rest =>
    obtain ⟨rfl, rfl⟩ := hcut
    go_wp2_with fail
    refine (tape_Identifier g b _ HK2.out).mono ?_
    rintro e w3 ⟨xa, rfl, hva, hsa, hk3, hg3⟩
    go_wp2_with fail
    refine (tape_Identifier g b _ hk3).mono ?_
    rintro e w4 ⟨xb, rfl, hvb, hsb, hk4, hg4⟩
    have hx4 : Below w.heap.size w w4 := Below.grown hx2 (grown_trans hg3 hg4) hx2.size (fun q e => by injection e with e; omega)
    have HS4 : Hid (SliceIs w4 w4.heap.size Link.cells 10 A2 l) := (HS2.out.grown hg3 HNE.out).grown hg4 HNE.out
    have HK4 := Lib.hid hk4
    have HVA := Lib.hid hva
    have HVB := Lib.hid hvb
    clear hk3 hk4 HS2 HK2 hg3 hg4 hva hvb
    go_upto_region 7 with (fail)
    obtain ⟨X, hX⟩ : ∃ X, X = w4.heap.size := ⟨_, rfl⟩
    rw [← hX]
    refine abs_world (P := fun u => Code.wp _ _ _ _ u) (R := fun u => Blk u X 27 xa.cells.toArray ∧ Blk u (X + 1) 27 xb.cells.toArray ∧ IsTape u g b ∧ SliceIs u u.heap.size Link.cells 10 A2 l ∧ Below w.heap.size w u) ⟨?_, ?_, ?_, ?_, ?_⟩ ?_
    · rw [hX]; exact (Blk.new _ _ _).alloc _
    · exact Blk.new' (by simp [hX])
    · exact (HK4.out.alloc _).alloc _
    · exact HS4.out.next (by repeat (first | with_reducible exact Below.refl _ _ | with_reducible assumption | (with_reducible refine Below.setCell ?_ ?_ _; rotate_left; focus (first | exact Nat.le_refl _ | exact Nat.le_add_right _ _ | (simp; done) | (simp; omega) | omega)) | (with_reducible refine Below.alloc ?_ ?_ _; rotate_left; focus (first | exact Nat.le_refl _ | exact Nat.le_add_right _ _ | (simp; done) | (simp; omega) | omega)) | with_reducible refine Below.drew ?_ | with_reducible refine below_drewN ?_ _ | (with_reducible refine below_nextN ?_ (by with_reducible assumption) ?_; rotate_left; focus (first | exact Nat.le_refl _ | exact Nat.le_add_right _ _ | (simp; done) | (simp; omega) | omega))))
    · exact (hx4.alloc hx4.size _).alloc (by have := hx4.size; simp; omega) _
    clear HS4 hx4 hX HK4 hx2 hx1
    rintro W ⟨hba, hbb, hkW, hsl, hbW⟩
    obtain ⟨p0, p1, p2, p3⟩ := Ident.blk hba
    obtain ⟨q0, q1, q2, q3⟩ := Ident.blk hbb
    have mz0 := hba.lt
    have mz1 := hbb.lt
    have HSW := Lib.hid hsl
    have HKW := Lib.hid hkW
    have HBA := Lib.hid hba
    have HBB := Lib.hid hbb
    have hgW := hkW.ltg
    clear hsl hkW hba hbb
    cases hab : decide (xa = xb)
    · have heq := eqlId_of hab
      have hne : xa ≠ xb := by simpa using hab
      have HNAB := Lib.hid hne
      clear hne hab
      obtain ⟨i0, hi0, hz0, hz1, hz2⟩ := info_parts infoLink
      have hw1 : IntKind.i64.wrap (la + 1) = la + 1 := wrap_inR _ (by omega) (by omega)
      go_upto_region 9 with (fail)
      clear heq
      go_cut [8] from 35 to 44 (fun v8 wx => ∃ A8 c8, v8 = .slice A8 (l.length + 1) c8 ∧ SliceIs wx wx.heap.size Link.cells 10 A8 (l ++ [⟨xa, xb, la + 1, true⟩]) ∧ (∀ a, A8 = some a → some a.block ≠ some g) ∧ Below W.heap.size W wx)
      case first =>
        go_region_law (first
        | (refine step_append_list _ rfl (.tmp 35) (.tmp 36) 22 rfl 29 i0 _ Link.cells 10 112 Try.underlying22 hi0 hz0 hz1 hz2 rfl (by omega) link_len link_one W.heap.size (.slice (some ⟨W.heap.size, 0, none⟩) 0 0) [] rfl (Owns.empty (by first | exact ((Blk.new' rfl).alloc _).drew | exact (Blk.new' rfl).alloc _) (by first | exact Nat.le_refl _ | exact Nat.le_add_right _ _ | assumption | (simp; done) | (simp; omega) | omega)) _ _ _ l rfl rfl (HSW.out.next (by repeat (first | with_reducible exact Below.refl _ _ | with_reducible assumption | (with_reducible refine Below.setCell ?_ ?_ _; rotate_left; focus (first | exact Nat.le_refl _ | exact Nat.le_add_right _ _ | (simp; done) | (simp; omega) | omega)) | (with_reducible refine Below.alloc ?_ ?_ _; rotate_left; focus (first | exact Nat.le_refl _ | exact Nat.le_add_right _ _ | (simp; done) | (simp; omega) | omega)) | with_reducible refine Below.drew ?_ | with_reducible refine below_drewN ?_ _ | (with_reducible refine below_nextN ?_ (by with_reducible assumption) ?_; rotate_left; focus (first | exact Nat.le_refl _ | exact Nat.le_add_right _ _ | (simp; done) | (simp; omega) | omega))))) (by simp; omega) (by simp [maxLen]; omega) (by first | exact Nat.le_refl _ | exact Nat.le_add_right _ _ | assumption | (simp; done) | (simp; omega) | omega) ?_; intro v1 w1 hown1 hg1 hat1; have hb1 : Below W.heap.size W w1 := Below.grown (by repeat (first | with_reducible exact Below.refl _ _ | with_reducible assumption | (with_reducible refine Below.setCell ?_ ?_ _; rotate_left; focus (first | exact Nat.le_refl _ | exact Nat.le_add_right _ _ | (simp; done) | (simp; omega) | omega)) | (with_reducible refine Below.alloc ?_ ?_ _; rotate_left; focus (first | exact Nat.le_refl _ | exact Nat.le_add_right _ _ | (simp; done) | (simp; omega) | omega)) | with_reducible refine Below.drew ?_ | with_reducible refine below_drewN ?_ _ | (with_reducible refine below_nextN ?_ (by with_reducible assumption) ?_; rotate_left; focus (first | exact Nat.le_refl _ | exact Nat.le_add_right _ _ | (simp; done) | (simp; omega) | omega)))) hg1 (by first | exact Nat.le_refl _ | exact Nat.le_add_right _ _ | assumption | (simp; done) | (simp; omega) | omega) (own_row (by first | exact Nat.le_refl _ | exact Nat.le_add_right _ _ | assumption | (simp; done) | (simp; omega) | omega)); have hsz1 := hb1.size; have kx1 := (keepB hb1 X mz0).1; have ky1 := (keepB hb1 (X + 1) mz1).1; have h40 : Blk w1 (W.heap.size + 1) 29 (Link.cells ⟨xa, xb, la + 1, true⟩).toArray := Blk.grown (by first | exact (Blk.new' (by simp)).drew | exact Blk.new' (by simp)) hg1 (ne_row (by omega)))
        | (refine step_append_list _ rfl (.tmp 35) (.tmp 36) 22 rfl 29 i0 _ Link.cells 10 112 Try.underlying22 hi0 hz0 hz1 hz2 rfl (by omega) link_len link_one W.heap.size (.slice (some ⟨(W.heap.size + 1), 0, none⟩) 0 0) [] rfl (Owns.empty (by first | exact (Blk.new' (by simp)).drew | exact Blk.new' (by simp)) (by first | exact Nat.le_refl _ | exact Nat.le_add_right _ _ | assumption | (simp; done) | (simp; omega) | omega)) _ _ _ l rfl rfl (HSW.out.next (by repeat (first | with_reducible exact Below.refl _ _ | with_reducible assumption | (with_reducible refine Below.setCell ?_ ?_ _; rotate_left; focus (first | exact Nat.le_refl _ | exact Nat.le_add_right _ _ | (simp; done) | (simp; omega) | omega)) | (with_reducible refine Below.alloc ?_ ?_ _; rotate_left; focus (first | exact Nat.le_refl _ | exact Nat.le_add_right _ _ | (simp; done) | (simp; omega) | omega)) | with_reducible refine Below.drew ?_ | with_reducible refine below_drewN ?_ _ | (with_reducible refine below_nextN ?_ (by with_reducible assumption) ?_; rotate_left; focus (first | exact Nat.le_refl _ | exact Nat.le_add_right _ _ | (simp; done) | (simp; omega) | omega))))) (by simp; omega) (by simp [maxLen]; omega) (by first | exact Nat.le_refl _ | exact Nat.le_add_right _ _ | assumption | (simp; done) | (simp; omega) | omega) ?_; intro v1 w1 hown1 hg1 hat1; have hb1 : Below W.heap.size W w1 := Below.grown (by repeat (first | with_reducible exact Below.refl _ _ | with_reducible assumption | (with_reducible refine Below.setCell ?_ ?_ _; rotate_left; focus (first | exact Nat.le_refl _ | exact Nat.le_add_right _ _ | (simp; done) | (simp; omega) | omega)) | (with_reducible refine Below.alloc ?_ ?_ _; rotate_left; focus (first | exact Nat.le_refl _ | exact Nat.le_add_right _ _ | (simp; done) | (simp; omega) | omega)) | with_reducible refine Below.drew ?_ | with_reducible refine below_drewN ?_ _ | (with_reducible refine below_nextN ?_ (by with_reducible assumption) ?_; rotate_left; focus (first | exact Nat.le_refl _ | exact Nat.le_add_right _ _ | (simp; done) | (simp; omega) | omega)))) hg1 (by first | exact Nat.le_refl _ | exact Nat.le_add_right _ _ | assumption | (simp; done) | (simp; omega) | omega) (own_row (by first | exact Nat.le_refl _ | exact Nat.le_add_right _ _ | assumption | (simp; done) | (simp; omega) | omega)); have hsz1 := hb1.size; have kx1 := (keepB hb1 X mz0).1; have ky1 := (keepB hb1 (X + 1) mz1).1; have h40 : Blk w1 W.heap.size 29 (Link.cells ⟨xa, xb, la + 1, true⟩).toArray := Blk.grown (by first | exact ((Blk.new' rfl).alloc _).drew | exact (Blk.new' rfl).alloc _) hg1 (ne_row (by omega)))
        | (refine step_append_list _ rfl (.tmp 35) (.tmp 36) 22 rfl 29 i0 _ Link.cells 10 112 Try.underlying22 hi0 hz0 hz1 hz2 rfl (by omega) link_len link_one W.heap.size (.slice (some ⟨W.heap.size, 0, none⟩) 0 0) [] rfl (Owns.empty (by first | exact (Blk.new' rfl).drew | exact Blk.new' rfl) (by first | exact Nat.le_refl _ | exact Nat.le_add_right _ _ | assumption | (simp; done) | (simp; omega) | omega)) _ _ _ l rfl rfl (HSW.out.next (by repeat (first | with_reducible exact Below.refl _ _ | with_reducible assumption | (with_reducible refine Below.setCell ?_ ?_ _; rotate_left; focus (first | exact Nat.le_refl _ | exact Nat.le_add_right _ _ | (simp; done) | (simp; omega) | omega)) | (with_reducible refine Below.alloc ?_ ?_ _; rotate_left; focus (first | exact Nat.le_refl _ | exact Nat.le_add_right _ _ | (simp; done) | (simp; omega) | omega)) | with_reducible refine Below.drew ?_ | with_reducible refine below_drewN ?_ _ | (with_reducible refine below_nextN ?_ (by with_reducible assumption) ?_; rotate_left; focus (first | exact Nat.le_refl _ | exact Nat.le_add_right _ _ | (simp; done) | (simp; omega) | omega))))) (by simp; omega) (by simp [maxLen]; omega) (by first | exact Nat.le_refl _ | exact Nat.le_add_right _ _ | assumption | (simp; done) | (simp; omega) | omega) ?_; intro v1 w1 hown1 hg1 hat1; have hb1 : Below W.heap.size W w1 := Below.grown (by repeat (first | with_reducible exact Below.refl _ _ | with_reducible assumption | (with_reducible refine Below.setCell ?_ ?_ _; rotate_left; focus (first | exact Nat.le_refl _ | exact Nat.le_add_right _ _ | (simp; done) | (simp; omega) | omega)) | (with_reducible refine Below.alloc ?_ ?_ _; rotate_left; focus (first | exact Nat.le_refl _ | exact Nat.le_add_right _ _ | (simp; done) | (simp; omega) | omega)) | with_reducible refine Below.drew ?_ | with_reducible refine below_drewN ?_ _ | (with_reducible refine below_nextN ?_ (by with_reducible assumption) ?_; rotate_left; focus (first | exact Nat.le_refl _ | exact Nat.le_add_right _ _ | (simp; done) | (simp; omega) | omega)))) hg1 (by first | exact Nat.le_refl _ | exact Nat.le_add_right _ _ | assumption | (simp; done) | (simp; omega) | omega) (own_row (by first | exact Nat.le_refl _ | exact Nat.le_add_right _ _ | assumption | (simp; done) | (simp; omega) | omega)); have hsz1 := hb1.size; have kx1 := (keepB hb1 X mz0).1; have ky1 := (keepB hb1 (X + 1) mz1).1)
        | (refine step_append_list _ rfl (.tmp 37) (.tmp 43) 22 rfl 29 i0 _ Link.cells 10 112 Try.underlying22 hi0 hz0 hz1 hz2 rfl (by omega) link_len link_one W.heap.size v1 ([] ++ l) rfl (by first | exact hown1 | exact hown1.alloc _) _ _ _ [⟨xa, xb, la + 1, true⟩] rfl rfl (by first | exact Blk.one (enc := Link.cells) (x := ⟨xa, xb, la + 1, true⟩) (Blk.new' (by simp)) (by simp) | exact Blk.one (enc := Link.cells) (x := ⟨xa, xb, la + 1, true⟩) h40 h40.lt) (by simp; omega) (by simp [maxLen]; omega) (by have := hb1.size; simp; omega) ?_; intro v2 w2 hown2 hg2 hat2; have hb2 : Below W.heap.size W w2 := Below.grown (by repeat (first | with_reducible exact Below.refl _ _ | with_reducible assumption | (with_reducible refine Below.setCell ?_ ?_ _; rotate_left; focus (first | exact Nat.le_refl _ | exact Nat.le_add_right _ _ | (simp; done) | (simp; omega) | omega)) | (with_reducible refine Below.alloc ?_ ?_ _; rotate_left; focus (first | exact Nat.le_refl _ | exact Nat.le_add_right _ _ | (simp; done) | (simp; omega) | omega)) | with_reducible refine Below.drew ?_ | with_reducible refine below_drewN ?_ _ | (with_reducible refine below_nextN ?_ (by with_reducible assumption) ?_; rotate_left; focus (first | exact Nat.le_refl _ | exact Nat.le_add_right _ _ | (simp; done) | (simp; omega) | omega)))) hg2 (by have := hb1.size; simp; omega) hown1.row; have hsz2 := hb2.size))
        all_goals go_wp2_with fail
        all_goals go_meet
        all_goals (obtain ⟨A8, c8, rfl, hc8, hs8, hA8⟩ := hown2.slice link_len; exact ⟨A8, c8, by simp, by simpa using hs8, fun a ha e => by injection e with e; have := (hA8 a ha).1; omega, hb2⟩)
      case rest =>
        obtain ⟨A8, c8, rfl, hs8, hne8, hb8⟩ := hcut
        have HS8 := Lib.hid hs8
        have HNE8 := Lib.hid hne8
        have HKC := Lib.hid (HKW.out.below hb8)
        have HSC := Lib.hid (HSW.out.next hb8)
        have HAC := Lib.hid (HBA.out.below hb8 mz0)
        have HBC := Lib.hid (HBB.out.below hb8 mz1)
        have hxC := below_next hbW hb8
        have hgC := HKC.out.ltg
        have yz0 := HAC.out.lt
        have yz1 := HBC.out.lt
        clear hs8 hne8 HKW HSW HBA HBB p0 p1 p2 p3 q0 q1 q2 q3 hbW hb8 mz0 mz1 hgW
        go_wp2_with fail
        go_loopw [9, 10] (fun vr vi wr => ∃ m : Nat, m ≤ l.length ∧ vi = .int .i64 m ∧ Owns wr wc.heap.size 29 Link.cells 10 vr (otherPairs (l.take m) (⟨xa, xb, la + 1, true⟩ : Link)) ∧ Below wc.heap.size wc wr) (fun _ vi _ => l.length - (intOf vi).toNat)
        case atStart => exact ⟨0, Nat.zero_le _, rfl, Owns.nil, Below.refl _ _⟩
        case round =>
          obtain ⟨m, hm, rfl, hown, hbr⟩ := hrel
          have hwz := hbr.size
          by_cases hlt : m < l.length
          · obtain ⟨b5, o5, rfl, hb5, hc5⟩ := (HSC.out.next hbr).get hlt
            obtain ⟨⟨a0, a1, a2, a3⟩, ⟨b0, b1, b2, b3⟩, s8, r9⟩ := Link.cells10 hc5
            obtain ⟨p0, p1, p2, p3⟩ := Ident.blk (HAC.out.below hbr yz0)
            obtain ⟨q0, q1, q2, q3⟩ := Ident.blk (HBC.out.below hbr yz1)
            have hk0 := keepQ (w := wr) b5 hb5
            have hk1 := keepQ (w := wr) X (by omega)
            have hk2 := keepQ (w := wr) (X + 1) (by omega)
            have HOWN := Lib.hid hown
            have hrow := hown.row
            have hol : (otherPairs (l.take m) (⟨xa, xb, la + 1, true⟩ : Link)).length ≤ m := Nat.le_trans (List.length_filter_le _ _) (by simp; omega)
            clear hc5 hown
            go_upto_region 14 with (fail)
            cases h1 : decide (l[m].a = xa) <;> cases h2 : decide (l[m].b = xb) <;> cases h3 : decide (l[m].a = xb) <;> cases h4 : decide (l[m].b = xa)
            all_goals
              have e1 := eqlId_of h1
              have e2 := eqlId_of h2
              have e3 := eqlId_of h3
              have e4 := eqlId_of h4
              have H1 := Lib.hid h1
              have H2 := Lib.hid h2
              have H3 := Lib.hid h3
              have H4 := Lib.hid h4
              clear h1 h2 h3 h4
              refine wp_region_bel (by kernel_rfl) (by kernel_rfl) ?_; (repeat (go_big_quiet_step (fail))); refine wpQuiet_nil ?_; intro wq hq
              clear e1 e2 e3 e4 hk0 hk1 hk2 p0 p1 p2 p3 q0 q1 q2 q3
              have hq' := below_nextN hbr hq hbr.size
              have kq := (keepB hq b5 hb5).1
              have hqz := hq.size
              first
                | (have hsp : samePair l[m] (⟨xa, xb, la + 1, true⟩ : Link) = false := by simp only [samePair, H1.out, H2.out, H3.out, H4.out]; rfl
                   go_wp2_with (at_builtin; go_must (refine wpList_append_list _ rfl (.tmp 86) (.tmp 91) 22 rfl 29 i0 _ Link.cells 10 112 Try.underlying22 hi0 hz0 hz1 hz2 rfl (by omega) link_len link_one wc.heap.size u9 (otherPairs (l.take m) (⟨xa, xb, la + 1, true⟩ : Link)) rfl ((HOWN.out.below hq (Nat.le_refl _)).alloc _) _ _ _ [l[m]] rfl rfl (Blk.one (enc := Link.cells) (x := l[m]) (Blk.new' (by simp)) (by simp)) (by simp; omega) (by simp [maxLen]; omega) (by simp; omega) ?_); intro v' w6 hown' hg' hat'; have HOWN' := Lib.hid hown'; clear hown'; have hbel : Below wc.heap.size wc w6 := Below.grown (by repeat (first | with_reducible exact Below.refl _ _ | with_reducible assumption | (with_reducible refine Below.setCell ?_ ?_ _; rotate_left; focus (first | exact Nat.le_refl _ | exact Nat.le_add_right _ _ | (simp; done) | (simp; omega) | omega)) | (with_reducible refine Below.alloc ?_ ?_ _; rotate_left; focus (first | exact Nat.le_refl _ | exact Nat.le_add_right _ _ | (simp; done) | (simp; omega) | omega)) | with_reducible refine Below.drew ?_ | with_reducible refine below_drewN ?_ _ | (with_reducible refine below_nextN ?_ (by with_reducible assumption) ?_; rotate_left; focus (first | exact Nat.le_refl _ | exact Nat.le_add_right _ _ | (simp; done) | (simp; omega) | omega)))) hg' (by simp; omega) hrow)
                   go_roundw
                   case rel => exact ⟨m + 1, by omega, by go_num, by rw [other_step hlt, if_neg (by rw [hsp]; decide)]; exact HOWN'.out, hbel⟩
                   case measure => simp [intOf]; omega)
                | (have hsp : samePair l[m] (⟨xa, xb, la + 1, true⟩ : Link) = true := by simp only [samePair, H1.out, H2.out, H3.out, H4.out]; rfl
                   go_wp2_with fail
                   go_roundw
                   case rel => exact ⟨m + 1, by omega, by go_num, by rw [other_step hlt, if_pos hsp]; exact HOWN.out.below hq (Nat.le_refl _), hq'⟩
                   case measure => simp [intOf]; omega)
          · have hlt1 : decide (m < l.length) = false := by simpa using hlt
            obtain rfl : m = l.length := by omega
            rw [List.take_length] at hown
            obtain ⟨A9, c9, rfl, hc9, hs9, hA9⟩ := hown.slice link_len
            have hne9 : ∀ a, A9 = some a → some a.block ≠ some g := fun a ha e => by injection e with e; have := (hA9 a ha).1; omega
            have HS9 := Lib.hid hs9
            have HNE9 := Lib.hid hne9
            clear hs9 hne9 hown hA9
            go_wp2_with fail
            refine (tape_Identifier g b _ (HKC.out.below hbr)).mono ?_
            rintro e w5 ⟨x, rfl, hvx, hsx, hk5, hg5⟩
            go_wp2_with fail
            refine (tape_Identifier g b _ hk5).mono ?_
            rintro e w6 ⟨y, rfl, hvy, hsy, hk6, hg6⟩
            have HT8 : Hid (SliceIs w6 w6.heap.size Link.cells 10 A8 (l ++ [(⟨xa, xb, la + 1, true⟩ : Link)])) := ((HS8.out.next hbr).grown hg5 HNE8.out).grown hg6 HNE8.out
            have HT9 : Hid (SliceIs w6 w6.heap.size Link.cells 10 A9 (otherPairs l (⟨xa, xb, la + 1, true⟩ : Link))) := (HS9.out.grown hg5 HNE9.out).grown hg6 HNE9.out
            have hx6 : Below w.heap.size w w6 := Below.grown (below_next hxC hbr) (grown_trans hg5 hg6) (by have := hxC.size; omega) (fun q e => by injection e with e; omega)
            have hvc : validLinks (l ++ [(⟨xa, xb, la + 1, true⟩ : Link)]) = true := by
              have := valid_cut HV.out (by omega) (by rw [HLA.out]; omega) HVA.out HVB.out HNAB.out
              rwa [HLA.out] at this
            have hvr := valid_rest HV.out (⟨xa, xb, la + 1, true⟩ : Link)
            have hlin : linkedB (otherPairs l (⟨xa, xb, la + 1, true⟩ : Link)) x y (la + 1) = linkedB (l ++ [(⟨xa, xb, la + 1, true⟩ : Link)]) x y (la + 1) := by
              have := revoked_linked (x := x) (y := y) HV.out (by omega) (by rw [HLA.out]; omega) HVA.out HVB.out HNAB.out (⟨xa, xb, la + 1, true⟩ : Link) (by rw [HLA.out])
              rwa [HLA.out] at this
            obtain ⟨r, hr⟩ : ∃ r, linkedB (l ++ [(⟨xa, xb, la + 1, true⟩ : Link)]) x y (la + 1) = r := ⟨_, rfl⟩
            rw [hr] at hlin
            have hself : linkedB (l ++ [(⟨xa, xb, la + 1, true⟩ : Link)]) x x (la + 1) = true := (linkedB_iff _ _ _ _).2 ⟨hvc, hvx, hvx, .refl⟩
            have HR := Lib.hid hr
            have HR2 := Lib.hid hlin
            have HR3 := Lib.hid hself
            have HSC1 := Lib.hid (valid_sane hvc)
            have HSR1 := Lib.hid (valid_sane hvr)
            have hol : (otherPairs l (⟨xa, xb, la + 1, true⟩ : Link)).length ≤ l.length := List.length_filter_le _ _
            clear hr hlin hself hvc hvr hk5 hk6 hg5 hg6 HS8 HS9 HNE8 HNE9 HKC HSC HAC HBC hvx hvy
            go_upto_region 17 with (fail)
            obtain ⟨Y, hY⟩ : ∃ Y, Y = w6.heap.size := ⟨_, rfl⟩
            rw [← hY]
            refine abs_world (P := fun u => Code.wp _ _ _ _ u) (R := fun u => Blk u Y 27 x.cells.toArray ∧ Blk u (Y + 1) 27 y.cells.toArray ∧ SliceIs u u.heap.size Link.cells 10 A8 (l ++ [(⟨xa, xb, la + 1, true⟩ : Link)]) ∧ SliceIs u u.heap.size Link.cells 10 A9 (otherPairs l (⟨xa, xb, la + 1, true⟩ : Link)) ∧ Below w.heap.size w u) ⟨?_, ?_, ?_, ?_, ?_⟩ ?_
            · rw [hY]; exact (Blk.new _ _ _).alloc _
            · exact Blk.new' (by simp [hY])
            · exact HT8.out.next (by repeat (first | with_reducible exact Below.refl _ _ | with_reducible assumption | (with_reducible refine Below.setCell ?_ ?_ _; rotate_left; focus (first | exact Nat.le_refl _ | exact Nat.le_add_right _ _ | (simp; done) | (simp; omega) | omega)) | (with_reducible refine Below.alloc ?_ ?_ _; rotate_left; focus (first | exact Nat.le_refl _ | exact Nat.le_add_right _ _ | (simp; done) | (simp; omega) | omega)) | with_reducible refine Below.drew ?_ | with_reducible refine below_drewN ?_ _ | (with_reducible refine below_nextN ?_ (by with_reducible assumption) ?_; rotate_left; focus (first | exact Nat.le_refl _ | exact Nat.le_add_right _ _ | (simp; done) | (simp; omega) | omega))))
            · exact HT9.out.next (by repeat (first | with_reducible exact Below.refl _ _ | with_reducible assumption | (with_reducible refine Below.setCell ?_ ?_ _; rotate_left; focus (first | exact Nat.le_refl _ | exact Nat.le_add_right _ _ | (simp; done) | (simp; omega) | omega)) | (with_reducible refine Below.alloc ?_ ?_ _; rotate_left; focus (first | exact Nat.le_refl _ | exact Nat.le_add_right _ _ | (simp; done) | (simp; omega) | omega)) | with_reducible refine Below.drew ?_ | with_reducible refine below_drewN ?_ _ | (with_reducible refine below_nextN ?_ (by with_reducible assumption) ?_; rotate_left; focus (first | exact Nat.le_refl _ | exact Nat.le_add_right _ _ | (simp; done) | (simp; omega) | omega))))
            · exact (hx6.alloc hx6.size _).alloc (by have := hx6.size; simp; omega) _
            clear HT8 HT9 hx6 hY
            rintro V ⟨hba, hbb, ht8, ht9, hbV⟩
            obtain ⟨p0, p1, p2, p3⟩ := Ident.blk hba
            obtain ⟨q0, q1, q2, q3⟩ := Ident.blk hbb
            have hk0 := keepQ (w := V) Y hba.lt
            have hk1 := keepQ (w := V) (Y + 1) hbb.lt
            have HT8 := Lib.hid ht8
            have HT9 := Lib.hid ht9
            clear hba hbb ht8 ht9
            cases r
            all_goals
              refine wp_region_bel (by kernel_rfl) (by kernel_rfl) ?_; (repeat (go_big_quiet_step ((first
                | (go_at_call 29; with_reducible exact bel_of (identity_LinkedB A8 c8 (l.length + 1) (l ++ [(⟨xa, xb, la + 1, true⟩ : Link)]) x y (la + 1) _ (HT8.out.next (BelOf.h _)) (by simp) (by omega) HSC1.out (by omega) (by omega) (by omega) HR.out))
                | (go_at_call 29; with_reducible exact bel_of (identity_LinkedB A9 c9 (otherPairs l (⟨xa, xb, la + 1, true⟩ : Link)).length (otherPairs l (⟨xa, xb, la + 1, true⟩ : Link)) x y (la + 1) _ (HT9.out.next (BelOf.h _)) rfl (by omega) HSR1.out (by omega) (by omega) (by omega) HR2.out))
                | (go_at_call 29; with_reducible exact bel_of (identity_LinkedB A8 c8 (l.length + 1) (l ++ [(⟨xa, xb, la + 1, true⟩ : Link)]) x x (la + 1) _ (HT8.out.next (BelOf.h _)) (by simp) (by omega) HSC1.out (by omega) (by omega) (by omega) HR3.out))
                | (go_at_call 14; exact bel_of (awake_any _)))))); refine wpQuiet_nil ?_; intro wq hq
              clear hk0 hk1 p0 p1 p2 p3 q0 q1 q2 q3
              go_wp2_with fail
              go_ret
              exact ⟨rfl, below_next hbV hq⟩
    · have heq := eqlId_of hab
      clear hab
      go_wp2_with fail
      refine (awake_any _).mono ?_
      rintro e w5 ⟨rfl, hb5⟩
      go_wp2_with fail
      go_ret
      exact ⟨rfl, below_next hbW hb5⟩
end Go.Proofs.Ytoleifehijccmaa
