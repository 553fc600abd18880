import Derived.Test.YtlpgmdhnjckplaaGreatSup
/-
  The reference of retention: the record of a source.
-/
import Derived.Test.YtlpgmdhnjckplaaGreatRef18
set_option linter.unusedVariables false
namespace Go.Proofs.YtlpgmdhnjckplaaGreat
open Go.RowKit Go

theorem find_is {recs : List Rcd} {k : Nat} (hk : k < recs.length) {p : Rcd → Bool} {r : Rcd} (hf : recs.find? p = some r) (hlo : ∀ j (h : j < recs.length), j < k → p recs[j] = false) (hp : p recs[k] = true) : recs[k] = r := by
  rw [List.find?_eq_some_iff_getElem] at hf
  obtain ⟨h1, i, hi, rfl, h2⟩ := hf
  rcases Nat.lt_trichotomy i k with h | h | h
  · rw [hlo i hi h] at h1; cases h1
  · subst h; rfl
  · have := h2 k h; rw [hp] at this; cases this
set_option maxRecDepth 100000 in
set_option maxHeartbeats 4000000 in
theorem ref18_record (RA : Option Addr) (rc n : Nat) (ts : List Tab) (rt : List RTab) (i : Nat) (s : Int) (r : Rcd) (w : World) (hR : RTabsIn w w.heap.size RA rt) (hn : rt.length = n) (hok : RTabsOk ts rt) (hi : i < rt.length) (hf : rt[i].recs.find? (fun r => headS r == s) = some r) :
    Calls Tryz.prog 123 #[.slice RA n rc, .agg #[.int .i64 i, .int .i64 s]] w fun e w' =>
      e = .returned (.agg #[.slice r.A r.row.length r.cap, .slice r.SA r.seq.length r.scap, .int .i64 r.day]) ∧ Below w.heap.size w w' := by
  subst hn
  have h8 : rt.length ≤ 8 := by rw [hok.len]; exact hok.cat.len
  have hits : i < ts.length := by have := hok.len; omega
  have htab := hok.tab i hi hits
  have hcpos := (hok.cat.cols hits).1
  have hrin : RecsIn w w.heap.size rt[i].A rt[i].recs := hR.2 rt[i] (List.getElem_mem hi)
  obtain ⟨b6, o6, rfl, hb6, hc6⟩ := hR.1.get hi
  have q0 := hc6 0 _ rfl
  simp only [Nat.mul_one, Nat.add_zero] at q0
  obtain ⟨recs, hrecs⟩ : ∃ l, rt[i].recs = l := ⟨_, rfl⟩
  obtain ⟨RI, hRI⟩ : ∃ a, rt[i].A = a := ⟨_, rfl⟩
  rw [hrecs] at q0 hrin htab hf
  rw [hRI] at q0 hrin
  have HRI := Lib.hid hrin.1
  have HRI2 := Lib.hid hrin.2
  have HTAB := Lib.hid htab
  have HF := Lib.hid hf
  have hr64 := htab.len
  have HQ0 := Lib.hid q0
  clear hR hok hc6 hrin hrecs htab hRI q0 hf
  go_enter Tryz.func123, Tryz.ntmps123
  go_upto_region 1 with (fail)
  refine abs_world (P := fun u => Code.wp _ _ _ _ u) (R := fun u => Blk u w.heap.size 68 #[.int .i64 i, .int .i64 s] ∧ Blk u (w.heap.size + 1) 148 #[.slice none 0 0, .slice none 0 0, .int .i64 0] ∧ Below w.heap.size w u) ⟨?_, ?_, ?_⟩ ?_
  · exact (Blk.new _ _ _).alloc _
  · exact Blk.new' (by simp)
  · exact belA
  rintro W ⟨hB, hC, hbW⟩
  have hzW := hC.lt
  have HB := Lib.hid hB
  have HC := Lib.hid hC
  clear hB hC
  go_wp2_with fail
  go_loopw [5] (fun vk wr => ∃ k : Nat, k ≤ recs.length ∧ vk = .int .i64 k ∧ Below W.heap.size W wr ∧ (∀ j (h : j < recs.length), j < k → (headS recs[j] == s) = false)) (fun vk _ => recs.length - (intOf vk).toNat)
  case atStart => exact ⟨0, Nat.zero_le _, rfl, Below.refl _ _, fun j _ h => by omega⟩
  case round =>
    obtain ⟨k, hk, rfl, hbr, hlo⟩ := hrel
    have HLO := Lib.hid hlo
    have hwz := hbr.size
    have hxr := below_nextN hbW hbr hbW.size
    have q0 := (hxr.cell (p := ⟨b6, o6 + i, none⟩) hb6).trans HQ0.out
    have e0 := (HB.out.below hbr (by omega)).cell 0
    have e1 := (HB.out.below hbr (by omega)).cell 1
    simp only [List.getElem?_toArray, List.getElem?_cons_zero, List.getElem?_cons_succ] at e0 e1
    clear hlo
    by_cases hkl : k < recs.length
    · obtain ⟨b7, o7, rfl, hb7, hc7⟩ := (HRI.out.below hxr).get hkl
      obtain ⟨g0, g1, g2⟩ := Rcd.cells3 hc7
      have hat := (HTAB.out.at_ k hkl).ok
      have hsl : 0 < recs[k].seq.length := by rw [hat.slen]; exact hcpos
      obtain ⟨b8, o8, hA8, hb8, hc8⟩ := ((HRI2.out recs[k] (List.getElem_mem hkl)).2.below hxr).get hsl
      have s0 := hc8 0 _ rfl
      have hhd : recs[k].seq[0] = headS recs[k] := head_seq hsl
      rw [hhd] at s0
      simp only [Nat.zero_mul, Nat.add_zero] at s0
      obtain ⟨hd, hhe⟩ : ∃ q, headS recs[k] = q := ⟨_, rfl⟩
      rw [hhe] at s0
      have HHE := Lib.hid hhe
      have hk0 := keepQ (w := wr) w.heap.size (by omega)
      have hk1 := keepQ (w := wr) b6 (by omega)
      have hk2 := keepQ (w := wr) b7 (by omega)
      have hk3 := keepQ (w := wr) b8 (by omega)
      clear hc7 hc8 hat hhd hhe
      cases heq : (hd == s)
      · rw [hA8] at g1
        have HNE : Hid ((headS recs[k] == s) = false) := Lib.hid (by rw [HHE.out]; exact heq)
        go_upto_region 4 with (fail)
        refine wp_region_bel (by kernel_rfl) (by kernel_rfl) ?_; (repeat (go_big_quiet_step (fail))); refine wpQuiet_nil ?_; intro wq hq
        clear hk0 hk1 hk2 hk3 g0 g1 g2 s0 q0 e0 e1
        go_wp2_with fail
        go_roundw
        case rel => exact ⟨k + 1, by omega, by go_num, below_nextN hbr hq hwz, fun j h hj => by
          rcases Nat.lt_or_ge j k with h1 | h1
          · exact HLO.out j h h1
          · obtain rfl : j = k := by omega
            exact HNE.out⟩
        case measure => simp [intOf]; omega
      · have HR : Hid (recs[k] = r) := Lib.hid (find_is hkl HF.out HLO.out (by rw [HHE.out]; exact heq))
        rw [HR.out] at g0 g1 g2 hsl
        have hA9 := hA8
        rw [HR.out] at hA9
        obtain ⟨SA, hSA⟩ : ∃ x, r.SA = x := ⟨_, rfl⟩
        rw [hSA] at hA9
        subst hA9
        rw [hSA] at g1
        have HSA := Lib.hid hSA
        clear hA8 hSA
        go_upto_region 4 with (fail)
        refine wp_region_bel (by kernel_rfl) (by kernel_rfl) ?_; (repeat (go_big_quiet_step (fail))); refine wpQuiet_nil ?_; intro wq hq
        have hxq := below_nextN hxr hq hxr.size
        replace q0 := (hq.cell (p := ⟨b6, o6 + i, none⟩) (show b6 < wr.heap.size by omega)).trans q0
        replace e0 := (hq.cell (p := ⟨w.heap.size, 0, none⟩) (show w.heap.size < wr.heap.size by omega)).trans e0
        replace g0 := (hq.cell (p := ⟨b7, _, none⟩) (show b7 < wr.heap.size by omega)).trans g0
        replace g1 := (hq.cell (p := ⟨b7, _, none⟩) (show b7 < wr.heap.size by omega)).trans g1
        replace g2 := (hq.cell (p := ⟨b7, _, none⟩) (show b7 < wr.heap.size by omega)).trans g2
        have hcell := (HC.out.below hbr hzW).below hq (by omega)
        have c0 := hcell.cell 0
        have c1 := hcell.cell 1
        have c2 := hcell.cell 2
        have f0 := hcell.frozen 0
        have f1 := hcell.frozen 1
        have f2 := hcell.frozen 2
        simp only [List.getElem?_toArray, List.getElem?_cons_zero, List.getElem?_cons_succ] at c0 c1 c2
        clear hk0 hk1 hk2 hk3 s0 e1 hcell
        go_wp2_with fail
        refine bodyPost_ret (v := .agg #[.slice r.A r.row.length r.cap, .slice r.SA r.seq.length r.scap, .int .i64 r.day]) (by simp [results, Tryz.results123, go_sem, c0, c1, c2, HSA.out]) rfl ⟨rfl, ?_⟩
        exact ((hxq.setCell (by simp) _).setCell (by simp) _).setCell (by simp) _
    · exfalso
      have h := HF.out
      rw [List.find?_eq_some_iff_getElem] at h
      obtain ⟨h1, j, hj, rfl, _⟩ := h
      rw [HLO.out j hj (by omega)] at h1
      cases h1
end Go.Proofs.YtlpgmdhnjckplaaGreat
