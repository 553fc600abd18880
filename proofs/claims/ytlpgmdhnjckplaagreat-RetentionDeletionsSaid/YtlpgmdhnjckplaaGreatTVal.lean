import Derived.Test.YtlpgmdhnjckplaaGreatSup
/-
  The laws' generator of values of any kind.
-/
import Derived.Test.YtlpgmdhnjckplaaGreatR13
set_option linter.unusedVariables false
set_option linter.unusedSimpArgs false
namespace Go.Proofs.YtlpgmdhnjckplaaGreat
open Go.RowKit

set_option maxRecDepth 100000 in
set_option maxHeartbeats 1000000 in
theorem tape_Value (g b : Nat) (w : World) (hk : IsTape w g b) : Calls Tryz.prog 72 #[.pointer (some ⟨g, 0, none⟩)] w (SomeVal w g b) := by
  have hgl := hk.ltg
  have hbl := hk.lt
  have HK := Lib.hid hk
  clear hk
  go_enter Tryz.func72, Tryz.ntmps72
  go_wp2_with fail
  (with_reducible refine (tape_Next g b 5 _ (HK.out.alloc _) (by omega) (by omega)).mono ?_)
  rintro e w1 ⟨r1, rfl, hr1, hk1, hg1⟩
  have hR1 := Blk.grown (Blk.new w 88 #[.int .i64 0, .int .i64 0, .string ⟨#[]⟩]) hg1 (fun e => by injection e with e; omega)
  have hG1 : w.grownBy w1 (some g) := grown_trans (grown_start _ (by exact belA)) hg1
  have HK1 := Lib.hid hk1
  have HR1 := Lib.hid hR1
  have hr5 : r1 < 5 := by rcases hr1 with h | h <;> omega
  clear hk1 hr1 hR1 HK
  rcases (show r1 = 0 ∨ r1 = 1 ∨ r1 = 2 ∨ (r1 = 3 ∨ r1 = 4) by omega) with rfl | rfl | rfl | h
  · have hR := HR1.out
    have c0 := hR.cell 0
    have c1 := hR.cell 1
    have c2 := hR.cell 2
    have f0 := hR.frozen 0
    have f1 := hR.frozen 1
    have f2 := hR.frozen 2
    simp only [List.getElem?_toArray, List.getElem?_cons_zero, List.getElem?_cons_succ] at c0 c1 c2
    clear hR
    go_wp2_with fail
    refine bodyPost_ret (v := .agg #[.int .i64 0, .int .i64 0, .string ⟨#[]⟩]) (by simp [results, Tryz.results72, go_sem, c0, c1, c2]) rfl ⟨⟨0, 0, ⟨#[]⟩⟩, rfl, ?_, ?_⟩
    · exact (((HK1.out).far (by simp; omega) (by simp; omega) _).far (by simp; omega) (by simp; omega) _).far (by simp; omega) (by simp; omega) _
    · exact only_setCell (only_setCell (only_setCell hG1 (.inr (Nat.le_refl _)) _) (.inr (Nat.le_refl _)) _) (.inr (Nat.le_refl _)) _
  · (
    go_wp2_with fail
    (with_reducible refine (tape_Text g b _ HK1.out).mono ?_)
    rintro e w2 ⟨⟨vk, vn, vt⟩, rfl, hk2, hg2⟩
    have hR := HR1.out.grown hg2 (fun e => by injection e with e; omega)
    have hG2 := grown_trans hG1 hg2
    have HK2 := Lib.hid hk2
    have c0 := hR.cell 0
    have c1 := hR.cell 1
    have c2 := hR.cell 2
    have f0 := hR.frozen 0
    have f1 := hR.frozen 1
    have f2 := hR.frozen 2
    simp only [List.getElem?_toArray, List.getElem?_cons_zero, List.getElem?_cons_succ] at c0 c1 c2
    clear hk2 hR
    go_wp2_with fail
    refine bodyPost_ret (v := .agg #[.int .i64 vk, .int .i64 vn, .string vt]) (by simp [results, Tryz.results72, go_sem, c0, c1, c2]) rfl ⟨⟨vk, vn, vt⟩, rfl, ?_, ?_⟩
    · exact (((HK2.out).far (by simp; omega) (by simp; omega) _).far (by simp; omega) (by simp; omega) _).far (by simp; omega) (by simp; omega) _
    · exact only_setCell (only_setCell (only_setCell hG2 (.inr (Nat.le_refl _)) _) (.inr (Nat.le_refl _)) _) (.inr (Nat.le_refl _)) _)
  · (
    go_wp2_with fail
    (with_reducible refine (tape_Text g b _ HK1.out).mono ?_)
    rintro e w2 ⟨⟨vk, vn, vt⟩, rfl, hk2, hg2⟩
    have hR := HR1.out.grown hg2 (fun e => by injection e with e; omega)
    have hG2 := grown_trans hG1 hg2
    have HK2 := Lib.hid hk2
    have c0 := hR.cell 0
    have c1 := hR.cell 1
    have c2 := hR.cell 2
    have f0 := hR.frozen 0
    have f1 := hR.frozen 1
    have f2 := hR.frozen 2
    simp only [List.getElem?_toArray, List.getElem?_cons_zero, List.getElem?_cons_succ] at c0 c1 c2
    clear hk2 hR
    go_wp2_with fail
    refine bodyPost_ret (v := .agg #[.int .i64 vk, .int .i64 vn, .string vt]) (by simp [results, Tryz.results72, go_sem, c0, c1, c2]) rfl ⟨⟨vk, vn, vt⟩, rfl, ?_, ?_⟩
    · exact (((HK2.out).far (by simp; omega) (by simp; omega) _).far (by simp; omega) (by simp; omega) _).far (by simp; omega) (by simp; omega) _
    · exact only_setCell (only_setCell (only_setCell hG2 (.inr (Nat.le_refl _)) _) (.inr (Nat.le_refl _)) _) (.inr (Nat.le_refl _)) _)
  · have h0 : ((r1 : Int) == 0) = false := by simp; omega
    have h1 : ((r1 : Int) == 1) = false := by simp; omega
    have h2 : ((r1 : Int) == 2) = false := by simp; omega
    clear h
    go_wp2_with fail
    (with_reducible refine (tape_Int g b _ HK1.out).mono ?_)
    rintro e w2 ⟨⟨vk, vn, vt⟩, rfl, hk2, hg2⟩
    have hR := HR1.out.grown hg2 (fun e => by injection e with e; omega)
    have hG2 := grown_trans hG1 hg2
    have HK2 := Lib.hid hk2
    have c0 := hR.cell 0
    have c1 := hR.cell 1
    have c2 := hR.cell 2
    have f0 := hR.frozen 0
    have f1 := hR.frozen 1
    have f2 := hR.frozen 2
    simp only [List.getElem?_toArray, List.getElem?_cons_zero, List.getElem?_cons_succ] at c0 c1 c2
    clear hk2 hR
    go_wp2_with fail
    refine bodyPost_ret (v := .agg #[.int .i64 vk, .int .i64 vn, .string vt]) (by simp [results, Tryz.results72, go_sem, c0, c1, c2]) rfl ⟨⟨vk, vn, vt⟩, rfl, ?_, ?_⟩
    · exact (((HK2.out).far (by simp; omega) (by simp; omega) _).far (by simp; omega) (by simp; omega) _).far (by simp; omega) (by simp; omega) _
    · exact only_setCell (only_setCell (only_setCell hG2 (.inr (Nat.le_refl _)) _) (.inr (Nat.le_refl _)) _) (.inr (Nat.le_refl _)) _
end Go.Proofs.YtlpgmdhnjckplaaGreat
