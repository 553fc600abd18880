import Derived.Test.YtlpgmdhnjckplaaGreatSup
/-
  The laws' generator of sources: some of the records' sources, and at times a strange one.
-/
import Derived.Test.YtlpgmdhnjckplaaGreatR13
import Derived.Test.YtlpgmdhnjckplaaGreatDelP
set_option linter.unusedVariables false
set_option linter.unusedSimpArgs false
namespace Go.Proofs.YtlpgmdhnjckplaaGreat
open Go.RowKit Go

set_option maxRecDepth 100000 in
set_option maxHeartbeats 4000000 in
theorem tape_Sources (g b B : Nat) (RA : Option Addr) (rc n : Nat) (rt : List RTab) (w : World) (hk : IsTape w g b) (hgB : g < B) (hr : RTabsIn w w.heap.size RA rt) (hru : RUp B RA rt) (hn : rt.length = n) (h8 : rt.length ≤ 8) (h64 : ∀ t ∈ rt, t.recs.length ≤ 64) (hsq : ∀ t ∈ rt, ∀ r ∈ t.recs, ∀ s ∈ r.seq, (1 : Int) ≤ s ∧ s ≤ 1073741824) :
    Calls Tryz.prog 31 #[.pointer (some ⟨g, 0, none⟩), .slice RA n rc] w fun e w' =>
      ∃ v l, e = .returned v ∧ Owns w' w.heap.size 68 Src.cells 2 v l ∧ SrcsIn l ∧ l.length ≤ 1000 ∧ IsTape w' g b ∧ w.grownBy w' (some g) := by
  subst hn
  obtain ⟨i0, hi0, hz0, hz1, hz2⟩ := info_parts infoSrc
  have hgl := hk.ltg
  have hbl := hk.lt
  have HK := Lib.hid hk
  have HR1 := Lib.hid hr.1
  have HR2 := Lib.hid hr.2
  have HRU := Lib.hid hru
  have H64 := Lib.hid h64
  have HSQ := Lib.hid hsq
  clear hk hr hru h64 hsq
  go_enter Tryz.func31, Tryz.ntmps31
  go_wp2_with fail
  go_loopw [5, 6] (fun vo vi wr => ∃ (i : Nat) (l : List Src), i ≤ rt.length ∧ vi = .int .i64 i ∧ Owns wr w.heap.size 68 Src.cells 2 vo l ∧ SrcsIn l ∧ l.length ≤ 64 * i ∧ IsTape wr g b ∧ w.grownBy wr (some g)) (fun _ vi _ => rt.length - (intOf vi).toNat)
  case atStart => exact ⟨0, [], Nat.zero_le _, rfl, Owns.nil, fun x hx => (by cases hx), Nat.zero_le _, HK.out, grown_start _ (Below.refl _ _)⟩
  case round =>
    obtain ⟨i, l, hi, rfl, hown, hsi, hll, hkr, hgr⟩ := hrel
    have HOWN := Lib.hid hown
    have HSI := Lib.hid hsi
    have HKR := Lib.hid hkr
    have HGR := Lib.hid hgr
    have hzr := hgr.size
    clear hown hsi hkr
    by_cases hlt : i < rt.length
    · have hrin : RecsIn w w.heap.size rt[i].A rt[i].recs := HR2.out rt[i] (List.getElem_mem hlt)
      have hrup := HRU.out.2 rt[i] (List.getElem_mem hlt)
      have h64 := H64.out rt[i] (List.getElem_mem hlt)
      have hsq := HSQ.out rt[i] (List.getElem_mem hlt)
      obtain ⟨b6, o6, rfl, hb6, hc6⟩ := HR1.out.get hlt
      have hB6 := HRU.out.1 _ rfl
      simp only at hB6
      have q0 := hc6 0 _ rfl
      simp only [Nat.mul_one, Nat.add_zero] at q0
      obtain ⟨recs, hrecs⟩ : ∃ l, rt[i].recs = l := ⟨_, rfl⟩
      obtain ⟨RI, hRI⟩ : ∃ a, rt[i].A = a := ⟨_, rfl⟩
      rw [hrecs] at q0 hrin hrup h64 hsq
      rw [hRI] at q0 hrin hrup
      have HRI := Lib.hid hrin.1
      have HRI2 := Lib.hid hrin.2
      have HUP := Lib.hid hrup
      have HSQI := Lib.hid hsq
      have HQ0 := Lib.hid q0
      clear hc6 hrin hrecs hRI q0 hrup hsq hgr
      go_wp2_with fail
      go_loopw [5, 7] (fun vo vj wi => ∃ (j : Nat) (l : List Src), j ≤ recs.length ∧ vj = .int .i64 j ∧ Owns wi w.heap.size 68 Src.cells 2 vo l ∧ SrcsIn l ∧ l.length ≤ 64 * i + j ∧ IsTape wi g b ∧ w.grownBy wi (some g)) (fun _ vj _ => recs.length - (intOf vj).toNat)
      case atStart => exact ⟨0, l, Nat.zero_le _, rfl, HOWN.out, HSI.out, hll, HKR.out, HGR.out⟩
      case round =>
        obtain ⟨j, l1, hj, rfl, hown1, hsi1, hl1, hk1, hg1⟩ := hrel
        have HO1 := Lib.hid hown1
        have HS1 := Lib.hid hsi1
        have HK1 := Lib.hid hk1
        have HG1 := Lib.hid hg1
        have hz1' := hg1.size
        have q0 := (keepG hg1 b6 hb6 (by omega) (o6 + i)).trans HQ0.out
        clear hown1 hsi1 hk1 hg1
        by_cases hjl : j < recs.length
        · obtain ⟨b7, o7, rfl, hb7, hc7⟩ := HRI.out.get hjl
          have hB7 := HUP.out.1 _ rfl
          simp only at hB7
          have hU8 := (HUP.out.2 recs[j] (List.getElem_mem hjl)).2
          have hs8 := (HRI2.out recs[j] (List.getElem_mem hjl)).2
          have hq8 := HSQI.out recs[j] (List.getElem_mem hjl)
          obtain ⟨_, g1, _⟩ := Rcd.cells3 hc7
          obtain ⟨sq, hsq⟩ : ∃ l, recs[j].seq = l := ⟨_, rfl⟩
          obtain ⟨SA, hSA⟩ : ∃ a, recs[j].SA = a := ⟨_, rfl⟩
          rw [hsq] at g1 hs8 hq8
          rw [hSA] at g1 hs8 hU8
          have HG7 := Lib.hid g1
          have HS8 := Lib.hid hs8
          have HU8 := Lib.hid hU8
          have HQ8 := Lib.hid hq8
          clear hc7 hsq hSA g1 hs8 hU8 hq8
          go_upto_region 8 with (fail)
          go_wp2_with fail
          refine (tape_Next g b 3 _ HK1.out (by omega) (by omega)).mono ?_
          rintro e w2 ⟨r3, rfl, hr3, hk2, hg2⟩
          have HK2 := Lib.hid hk2
          have hzw := hg2.size
          have hG2 := grown_trans HG1.out hg2
          have HG2 := Lib.hid hG2
          have HO2 := Lib.hid (HO1.out.grown hg2 hgl)
          replace q0 := (keepG hG2 b6 hb6 (by omega) (o6 + i)).trans HQ0.out
          have g1 := (keepG hG2 b7 hb7 (by omega) _).trans HG7.out
          clear hr3 hk2 hg2
          by_cases h30 : r3 = 0
          · subst h30
            by_cases hs0 : 0 < sq.length
            · obtain ⟨b8, o8, rfl, hb8, hc8⟩ := HS8.out.get hs0
              have hB8 := HU8.out _ rfl
              simp only at hB8
              have s0 := (keepG hG2 b8 hb8 (by omega) (o8 + 0)).trans (hc8 0 _ rfl)
              have hin := HQ8.out sq[0] (List.getElem_mem hs0)
              obtain ⟨hd, hhd⟩ : ∃ x, sq[0] = x := ⟨_, rfl⟩
              rw [hhd] at s0 hin
              simp only [Nat.zero_mul, Nat.add_zero] at s0
              have hrow := HO2.out.row
              clear hc8 hhd hG2
              go_wp2_with (at_builtin; go_must (refine wpList_append_list _ rfl (.tmp 38) (.tmp 51) 64 rfl 68 i0 _ Src.cells 2 16 Tryz.underlying64 hi0 hz0 hz1 hz2 rfl (by omega) src_len src_one w.heap.size u5 l1 rfl (HO2.out.alloc _) _ _ _ [⟨(i : Int), hd⟩] rfl rfl (Blk.one (enc := Src.cells) (x := ⟨(i : Int), hd⟩) (Blk.new' rfl) (by simp)) (by simp; omega) (by simp [maxLen]; omega) (by simp; omega) ?_); intro v' w6 hown' hg' hat'; have HOWN' := Lib.hid hown'; clear hown'; have HK6 : Hid (IsTape w6 g b) := (HK2.out.alloc _).grownO hg' (fun e => by have := hrow _ e.symm; omega) (fun e => by have := hrow _ e.symm; omega); have HG6 : Hid (w.grownBy w6 (some g)) := grown_newO (grown_alloc HG2.out _) hg' hrow)
              go_roundw
              case rel => exact ⟨j + 1, _, by omega, by go_num, HOWN'.out, HS1.out.snoc ⟨by simp only; omega, by simp only; omega, by simp only; omega, hin.2⟩, by simp; omega, HK6.out, HG6.out⟩
              case measure => simp [intOf]; omega
            · have hs0' : decide (0 < sq.length) = false := by simpa using hs0
              obtain rfl : sq = [] := List.eq_nil_of_length_eq_zero (by omega)
              clear hG2 hs0'
              go_wp2_with fail
              go_roundw
              case rel => exact ⟨j + 1, l1, by omega, by go_num, HO2.out, HS1.out, by omega, HK2.out, HG2.out⟩
              case measure => simp [intOf]; omega
          · have h30' : ((r3 : Int) == 0) = false := by simp; omega
            clear h30 hG2
            go_wp2_with fail
            go_roundw
            case rel => exact ⟨j + 1, l1, by omega, by go_num, HO2.out, HS1.out, by omega, HK2.out, HG2.out⟩
            case measure => simp [intOf]; omega
        · have hjl' : decide (j < recs.length) = false := by simpa using hjl
          go_wp2_with fail
          go_roundw
          case rel => exact ⟨i + 1, l1, by omega, by go_num, HO1.out, HS1.out, by omega, HK1.out, HG1.out⟩
          case measure => simp [intOf]; omega
    · have hlt' : decide (i < rt.length) = false := by simpa using hlt
      clear hgr
      go_wp2_with fail
      refine (tape_Next g b 4 _ HKR.out (by omega) (by omega)).mono ?_
      rintro e w2 ⟨r4, rfl, hr4, hk2, hg2⟩
      have HK2 := Lib.hid hk2
      have hzw := hg2.size
      have HG2 := Lib.hid (grown_trans HGR.out hg2)
      have HO2 := Lib.hid (HOWN.out.grown hg2 hgl)
      clear hr4 hk2 hg2
      by_cases h40 : r4 = 0
      · subst h40
        go_wp2_with fail
        refine (tape_Next g b 4 _ HK2.out (by omega) (by omega)).mono ?_
        rintro e w3 ⟨r5, rfl, hr5, hk3, hg3⟩
        have HK3 := Lib.hid hk3
        have hzw3 := hg3.size
        have HG3 := Lib.hid (grown_trans HG2.out hg3)
        have HO3 := Lib.hid (HO2.out.grown hg3 hgl)
        have hr5' : r5 ≤ 4 := by rcases hr5 with h | h <;> omega
        clear hr5 hk3 hg3
        go_wp2_with fail
        refine (tape_Next g b 9 _ HK3.out (by omega) (by omega)).mono ?_
        rintro e w4 ⟨r9, rfl, hr9, hk4, hg4⟩
        have HK4 := Lib.hid hk4
        have hzw4 := hg4.size
        have HG4 := Lib.hid (grown_trans HG3.out hg4)
        have hO4 := HO3.out.grown hg4 hgl
        have HO4 := Lib.hid hO4
        have hrow := hO4.row
        have hr9' : r9 ≤ 9 := by rcases hr9 with h | h <;> omega
        have hwr : IntKind.i64.wrap ((r5 : Int) - 1) = (r5 : Int) - 1 := IntWalk.i64_in _ (by omega)
        clear hr9 hk4 hg4 hO4
        go_wp2_with (at_builtin; go_must (refine wpList_append_list _ rfl (.tmp 56) (.tmp 63) 64 rfl 68 i0 _ Src.cells 2 16 Tryz.underlying64 hi0 hz0 hz1 hz2 rfl (by omega) src_len src_one w.heap.size u5 l rfl (HO4.out.alloc _) _ _ _ [⟨(r5 : Int) - 1, r9⟩] rfl rfl (Blk.one (enc := Src.cells) (x := ⟨(r5 : Int) - 1, r9⟩) (Blk.new' rfl) (by simp)) (by simp; omega) (by simp [maxLen]; omega) (by simp; omega) ?_); intro v' w6 hown' hg' hat'; have HOWN' := Lib.hid hown'; clear hown'; have HK6 : Hid (IsTape w6 g b) := (HK4.out.alloc _).grownO hg' (fun e => by have := hrow _ e.symm; omega) (fun e => by have := hrow _ e.symm; omega); have HG6 : Hid (w.grownBy w6 (some g)) := grown_newO (grown_alloc HG4.out _) hg' hrow)
        go_ret
        exact ⟨_, _, rfl, HOWN'.out, HSI.out.snoc ⟨by simp only; omega, by simp only; omega, by simp only; omega, by simp only; omega⟩, by simp; omega, HK6.out, HG6.out⟩
      · have h40' : ((r4 : Int) == 0) = false := by simp; omega
        clear h40
        go_wp2_with fail
        go_ret
        exact ⟨_, _, rfl, HO2.out, HSI.out, by omega, HK2.out, HG2.out⟩
end Go.Proofs.YtlpgmdhnjckplaaGreat
