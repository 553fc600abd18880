/-
  The laws' generator of identifiers: each is valid.
-/
import Derived.Test.YtoleifehijccmaaTape
import Derived.Test.YtoleifehijccmaaId
namespace Go.Proofs.Ytoleifehijccmaa
set_option linter.unusedVariables false
open Go.RowKit

theorem IsTape.alloc {w : World} {g b : Nat} (h : IsTape w g b) (o : Obj) : IsTape (w.alloc o) g b := h.below ((Below.refl _ _).alloc (Nat.le_refl _) o)
theorem IsTape.far {w : World} {g b : Nat} (h : IsTape w g b) {p : Addr} (hg : g ≠ p.block) (hb : b ≠ p.block) (u : Value) : IsTape (w.setCell p u) g b := by
  obtain ⟨n, c, a, zs, hB, h1, h2, h3, h4⟩ := h.is
  exact ⟨h.ne, by simpa using h.lt, n, c, a, zs, hB.far hg u, h1, h2, h3, fun i hi => (World.cell?_of_block (Below.heap_setCell w p u b hb)).trans (h4 i hi)⟩
theorem grown_start {w : World} (row : Option Nat) {w' : World} (h : Below w.heap.size w w') : w.grownBy w' row := only_of_below h row
theorem mail_valid {t : ByteArray} (h : t.size ≤ 32) : validId ⟨⟨#[109, 97, 105, 108]⟩, 2, 0, t⟩ = true := by
  have h1 : nameB ⟨#[109, 97, 105, 108]⟩ = true := by decide +kernel
  simp [validId, h1, valB, h]
theorem person_valid {r : Nat} (h : r ≤ 100) : validId ⟨⟨#[112, 101, 114, 115, 111, 110]⟩, 1, 1 + (r : Int), ⟨#[]⟩⟩ = true := by
  have h1 : nameB ⟨#[112, 101, 114, 115, 111, 110]⟩ = true := by decide +kernel
  have h3 : (-4294967296 : Int) ≤ 1 + (r : Int) ∧ 1 + (r : Int) ≤ 4294967296 := by omega
  simp [validId, h1, valB, h3.1, h3.2]
set_option maxRecDepth 100000 in
set_option maxHeartbeats 1000000 in
theorem tape_Identifier (g b : Nat) (w : World) (hk : IsTape w g b) :
    Calls Try.prog 17 #[.pointer (some ⟨g, 0, none⟩)] w fun e w' =>
      ∃ x : Ident, e = .returned (.agg #[.string x.ns, .int .i64 x.val.kind, .int .i64 x.val.num, .string x.val.text]) ∧ validId x = true ∧ x.ns.size ≤ 100 ∧ IsTape w' g b ∧ w.grownBy w' (some g) := by
  have hgl := hk.ltg
  have hbl := hk.lt
  have HK := Lib.hid hk
  clear hk
  go_enter Try.func17, Try.ntmps17
  go_wp2_with fail
  refine (tape_Next g b 3 _ (HK.out.alloc _) (by omega) (by omega)).mono ?_
  rintro e w1 ⟨r1, rfl, hr1, hk1, hg1⟩
  have hR1 : Blk w1 w.heap.size 27 #[.string ⟨#[]⟩, .int .i64 0, .int .i64 0, .string ⟨#[]⟩] := Blk.grown (Blk.new _ _ _) hg1 (fun e => by injection e with e; omega)
  have hgw1 : w.grownBy w1 (some g) := grown_trans (only_of_below ((Below.refl _ _).alloc (Nat.le_refl _) _) _) hg1
  have hz1 := hR1.lt
  have HR1 := Lib.hid hR1
  have HK1 := Lib.hid hk1
  clear hR1 hk1
  by_cases h0 : r1 = 0
  · subst h0
    go_wp2_with fail
    refine (tape_Next g b 4 _ (HK1.out.alloc _) (by omega) (by omega)).mono ?_
    rintro e w2 ⟨r2, rfl, hr2, hk2, hg2⟩
    have hR2 : Blk w2 w.heap.size 27 #[.string ⟨#[]⟩, .int .i64 0, .int .i64 0, .string ⟨#[]⟩] := Blk.grown (HR1.out.alloc _) hg2 (fun e => by injection e with e; omega)
    have hS2 : Blk w2 w1.heap.size 9 #[.string ⟨#[97]⟩, .string ⟨#[98]⟩, .string ⟨#[99]⟩, .string ⟨#[100]⟩] := Blk.grown (Blk.new _ _ _) hg2 (fun e => by injection e with e; have := hgw1.size; omega)
    have hr4 : r2 < 4 := by rcases hr2 with h | h <;> omega
    obtain ⟨t, ht, htl⟩ : ∃ t : ByteArray, w2.cell? ⟨w1.heap.size, r2, none⟩ = some (.string t) ∧ t.size ≤ 32 := by
      rw [hS2.cell]
      rcases (show r2 = 0 ∨ r2 = 1 ∨ r2 = 2 ∨ r2 = 3 by omega) with rfl | rfl | rfl | rfl
      · exact ⟨⟨#[97]⟩, rfl, by decide⟩
      · exact ⟨⟨#[98]⟩, rfl, by decide⟩
      · exact ⟨⟨#[99]⟩, rfl, by decide⟩
      · exact ⟨⟨#[100]⟩, rfl, by decide⟩
    have c0 := hR2.cell 0
    have c1 := hR2.cell 1
    have c2 := hR2.cell 2
    have c3 := hR2.cell 3
    have f0 := hR2.frozen 0
    have f1 := hR2.frozen 1
    have f2 := hR2.frozen 2
    have f3 := hR2.frozen 3
    simp only [List.getElem?_toArray, List.getElem?_cons_zero, List.getElem?_cons_succ] at c0 c1 c2 c3
    have HK2 := Lib.hid hk2
    clear hk2 hS2
    go_wp2_with fail
    refine bodyPost_ret (v := .agg #[.string ⟨#[109, 97, 105, 108]⟩, .int .i64 2, .int .i64 0, .string t]) (by simp [results, Try.results17, go_sem, c0, c1, c2, c3]) rfl ⟨⟨⟨#[109, 97, 105, 108]⟩, 2, 0, t⟩, rfl, mail_valid htl, show (4 : Nat) ≤ 100 by omega, ?_, ?_⟩
    · exact (((HK2.out.far (by simp; omega) (by simp; omega) _).far (by simp; omega) (by simp; omega) _).far (by simp; omega) (by simp; omega) _).far (by simp; omega) (by simp; omega) _
    · have hg : w.grownBy w2 (some g) := grown_trans (grown_alloc hgw1 _) hg2
      exact only_setCell (only_setCell (only_setCell (only_setCell hg (.inr (Nat.le_refl _)) _) (.inr (Nat.le_refl _)) _) (.inr (Nat.le_refl _)) _) (.inr (Nat.le_refl _)) _
  · have h0' : ((r1 : Int) == 0) = false := by simp; omega
    go_wp2_with fail
    refine (tape_Next g b 4 _ HK1.out (by omega) (by omega)).mono ?_
    rintro e w2 ⟨r2, rfl, hr2, hk2, hg2⟩
    have hR2 : Blk w2 w.heap.size 27 #[.string ⟨#[]⟩, .int .i64 0, .int .i64 0, .string ⟨#[]⟩] := Blk.grown HR1.out hg2 (fun e => by injection e with e; omega)
    have hr4 : r2 < 4 := by rcases hr2 with h | h <;> omega
    have c0 := hR2.cell 0
    have c1 := hR2.cell 1
    have c2 := hR2.cell 2
    have c3 := hR2.cell 3
    have f0 := hR2.frozen 0
    have f1 := hR2.frozen 1
    have f2 := hR2.frozen 2
    have f3 := hR2.frozen 3
    simp only [List.getElem?_toArray, List.getElem?_cons_zero, List.getElem?_cons_succ] at c0 c1 c2 c3
    have HK2 := Lib.hid hk2
    clear hk2
    go_wp2_with fail
    refine bodyPost_ret (v := .agg #[.string ⟨#[112, 101, 114, 115, 111, 110]⟩, .int .i64 1, .int .i64 (1 + (r2 : Int)), .string ⟨#[]⟩]) (by simp [results, Try.results17, go_sem, c0, c1, c2, c3]) rfl ⟨⟨⟨#[112, 101, 114, 115, 111, 110]⟩, 1, 1 + (r2 : Int), ⟨#[]⟩⟩, rfl, person_valid (by omega), show (6 : Nat) ≤ 100 by omega, ?_, ?_⟩
    · exact (((HK2.out.far (by simp; omega) (by simp; omega) _).far (by simp; omega) (by simp; omega) _).far (by simp; omega) (by simp; omega) _).far (by simp; omega) (by simp; omega) _
    · have hg : w.grownBy w2 (some g) := grown_trans hgw1 hg2
      exact only_setCell (only_setCell (only_setCell (only_setCell hg (.inr (Nat.le_refl _)) _) (.inr (Nat.le_refl _)) _) (.inr (Nat.le_refl _)) _) (.inr (Nat.le_refl _)) _
end Go.Proofs.Ytoleifehijccmaa
