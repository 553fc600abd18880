import Derived.Test.YtlpgmdhnjckplaaGreatSup
/-
  The reference of retention: Deletions.
-/
import Derived.Test.YtlpgmdhnjckplaaGreatRef18
import Derived.Test.YtlpgmdhnjckplaaGreatRefRec
import Derived.Test.YtlpgmdhnjckplaaGreatDelP
import Derived.Test.YtlpgmdhnjckplaaGreatR23
import Derived.Test.YtlpgmdhnjckplaaGreatR11
import Derived.Test.YtlpgmdhnjckplaaGreatR1
import Derived.Deep.RegionHeld3
set_option linter.unusedVariables false
set_option linter.unusedSimpArgs false
namespace Go.Proofs.YtlpgmdhnjckplaaGreat
open Go.RowKit Go

theorem mem_at {l : List Src} {i : Nat} (h : i < l.length) : l[i] ∈ l := List.getElem_mem h
set_option maxRecDepth 100000 in
set_option maxHeartbeats 8000000 in
theorem ref18_Deletions (A : Option Addr) (c m : Nat) (ts : List Tab) (RA : Option Addr) (rc n : Nat) (rt : List RTab) (GA : Option Addr) (gc gn : Nat) (gone : List Src) (seq day : Int) (w : World) (ht : TabsIn w w.heap.size A ts) (hm : ts.length = m) (hs : SaneCat ts) (hR : RTabsIn w w.heap.size RA rt) (hn : rt.length = n) (hsr : SaneR rt) (hG : SliceIs w w.heap.size Src.cells 2 GA gone) (hgl : gone.length = gn) (hg6 : gn ≤ 1000000) :
    Calls Tryz.prog 79 #[.agg #[.slice A m c, .slice none 0 0, .slice none 0 0, .slice none 0 0, .slice none 0 0, .slice none 0 0, .slice none 0 0, .slice none 0 0], .slice RA n rc, .slice GA gn gc, .int .i64 seq, .int .i64 day] w fun e w' =>
      (∃ EA ec l, e = .returned (.slice EA l.length ec) ∧ SliceIs w' w'.heap.size Chg.cells 12 EA l ∧ DelIs ts rt gone seq day l) ∧ Below w.heap.size w w' := by
  subst hm hn hgl
  obtain ⟨i0, hi0, hz0, hz1, hz2⟩ := info_parts infoChg
  have HT := Lib.hid ht
  have HS := Lib.hid hs
  have HR := Lib.hid hR
  have HSR := Lib.hid hsr
  have HG := Lib.hid hG
  clear ht hs hR hsr hG
  go_enter Tryz.func79, Tryz.ntmps79
  go_upto_region 1 with (fail)
  refine abs_world (P := fun u => Code.wp _ _ _ _ u) (R := fun u => Blk u w.heap.size 34 #[.slice A ts.length c, .slice none 0 0, .slice none 0 0, .slice none 0 0, .slice none 0 0, .slice none 0 0, .slice none 0 0, .slice none 0 0] ∧ Below w.heap.size w u) ⟨?_, ?_⟩ ?_
  · exact Blk.new _ _ _
  · exact belA
  rintro W ⟨hB, hbW⟩
  obtain ⟨p0, p1, p2, p3, p4, p5, p6, p7⟩ := Cat.blk hB
  have hzW := hbW.size
  clear hB
  obtain ⟨r0, hr0⟩ : ∃ b, pb (RTabsOk ts rt) = b := ⟨_, rfl⟩
  obtain ⟨r1, hr1⟩ : ∃ b, decide (day < 0) = b := ⟨_, rfl⟩
  obtain ⟨r2, hr2⟩ : ∃ b, decide (1048576 < day) = b := ⟨_, rfl⟩
  obtain ⟨r3, hr3⟩ : ∃ b, decide (seq < 1) = b := ⟨_, rfl⟩
  obtain ⟨r4, hr4⟩ : ∃ b, decide (1073741824 < seq) = b := ⟨_, rfl⟩
  have HVAL := Lib.hid fun (u : World) (hu : Below W.heap.size W u) => ref07_Valid A c ts.length ts RA rc rt.length rt u (HT.out.next (below_nextN hbW hu hzW)) rfl HS.out (HR.out.next (below_nextN hbW hu hzW)) rfl HSR.out hr0
  go_cut [33] (fun v wc => v = .bool (!r0 || (r1 || (r2 || (r3 || r4)))) ∧ Below W.heap.size W wc)
  case first =>
    cases r0
    · go_wp2_with (go_at_call 121; (with_reducible refine (HVAL.out _ (Below.refl _ _)).mono ?_); rintro e w1 ⟨rfl, hb1⟩)
      go_meet
      exact ⟨rfl, hb1⟩
    · cases r1
      · cases r2
        · cases r3
          · cases r4
            · go_wp2_with (go_at_call 121; (with_reducible refine (HVAL.out _ (Below.refl _ _)).mono ?_); rintro e w1 ⟨rfl, hb1⟩)
              go_meet
              exact ⟨rfl, hb1⟩
            · go_wp2_with (go_at_call 121; (with_reducible refine (HVAL.out _ (Below.refl _ _)).mono ?_); rintro e w1 ⟨rfl, hb1⟩)
              go_meet
              exact ⟨rfl, hb1⟩
          · go_wp2_with (go_at_call 121; (with_reducible refine (HVAL.out _ (Below.refl _ _)).mono ?_); rintro e w1 ⟨rfl, hb1⟩)
            go_meet
            exact ⟨rfl, hb1⟩
        · go_wp2_with (go_at_call 121; (with_reducible refine (HVAL.out _ (Below.refl _ _)).mono ?_); rintro e w1 ⟨rfl, hb1⟩)
          go_meet
          exact ⟨rfl, hb1⟩
      · go_wp2_with (go_at_call 121; (with_reducible refine (HVAL.out _ (Below.refl _ _)).mono ?_); rintro e w1 ⟨rfl, hb1⟩)
        go_meet
        exact ⟨rfl, hb1⟩
  case rest =>
    obtain ⟨rfl, hb1⟩ := hcut
    have hx1 := below_nextN hbW hb1 hzW
    clear HVAL p0 p1 p2 p3 p4 p5 p6 p7
    cases hb : (!r0 || (r1 || (r2 || (r3 || r4))))
    · simp only [Bool.or_eq_false_iff, Bool.not_eq_false'] at hb
      obtain ⟨rfl, rfl, rfl, rfl, rfl⟩ := hb
      rw [decide_eq_false_iff_not] at hr1 hr2 hr3 hr4
      have HVV := Lib.hid (pb_iff.1 hr0)
      have hd0 : 0 ≤ day := by omega
      have hd1 : day ≤ 1048576 := by omega
      have hq0 : 1 ≤ seq := by omega
      have hq1 : seq ≤ 1073741824 := by omega
      have h8 : rt.length ≤ 8 := by rw [HVV.out.len]; exact HVV.out.cat.len
      clear hr0 hr1 hr2 hr3 hr4
      go_wp2_with (go_at_call 122; (with_reducible refine (ref18_sources RA rc rt.length ts rt _ (HR.out.next hx1) rfl HVV.out).mono ?_); rintro e w2 ⟨⟨LA, lc, L, rfl, hLs, hLp, hLu⟩, hb2⟩)
      have hx2 := below_nextN hx1 hb2 hx1.size
      have hz2' := hx2.size
      have hL6 : L.length ≤ 1000 := by
        rw [hLp.length_eq]
        have := allSrc_len (rt := rt) (fun i h => (HVV.out.tab i h (by have := HVV.out.len; omega)).len) rt.length
        omega
      have HLS := Lib.hid hLs
      have HLP := Lib.hid hLp
      have HLU := Lib.hid hLu
      clear hLs hLp hLu
      go_loopw [11, 13] (fun vo vi wr => ∃ i : Nat, i ≤ L.length ∧ vi = .int .i64 i ∧ Owns wr w2.heap.size 90 Chg.cells 12 vo (delL rt seq day (wantL gone (L.take i))) ∧ seq + (wantL gone (L.take i)).length ≤ 1073741825 ∧ Below w2.heap.size w2 wr) (fun _ vi _ => L.length - (intOf vi).toNat)
      case atStart => exact ⟨0, Nat.zero_le _, rfl, Owns.nil, by show seq + 0 ≤ _; omega, Below.refl _ _⟩
      case round =>
        obtain ⟨i, hi, rfl, hown, hfit, hbr⟩ := hrel
        have hwz := hbr.size
        have hxr := below_nextN hx2 hbr hz2'
        have hDl : (delL rt seq day (wantL gone (L.take i))).length ≤ i := by
          rw [delL_len]
          have := wantL_le gone (L.take i)
          simp at this
          omega
        have HDE : Hid ((delL rt seq day (wantL gone (L.take i))).length = (wantL gone (L.take i)).length) := Lib.hid (delL_len ..)
        obtain ⟨D, hD⟩ : ∃ D, delL rt seq day (wantL gone (L.take i)) = D := ⟨_, rfl⟩
        have HFIT := Lib.hid hfit
        have HDD := Lib.hid hD
        rw [hD] at hown hDl HDE
        have hfit' : seq + (D.length : Int) ≤ 1073741825 := by rw [HDE.out]; exact HFIT.out
        have HOWN := Lib.hid hown
        clear hown hD hfit
        by_cases hlt : i < L.length
        · obtain ⟨b5, o5, rfl, hb5, hc5⟩ := (HLS.out.below hbr).get hlt
          have s0 := hc5 0 _ rfl
          have s1 := hc5 1 _ rfl
          simp only [Nat.add_zero] at s0 s1
          obtain ⟨k, ⟨A9, c9, row, SA9, sc9, sq9, dy9⟩, hk, htab, hmr, hseq, hfind, hkey, hrow⟩ := allSrc_key HVV.out (HLP.out.mem_iff.1 (mem_at hlt))
          obtain ⟨⟨tb, sq⟩, hs⟩ : ∃ x, L[i] = x := ⟨_, rfl⟩
          rw [hs] at s0 s1 htab hseq hfind hkey
          simp only at s0 s1 htab hseq hfind hkey hrow
          subst htab
          have HSI := Lib.hid hs
          have HKEY := Lib.hid hkey
          have HFIND := Lib.hid hfind
          have HTK := Lib.hid (wantL_take (gone := gone) hlt)
          have hrr : SliceIs w w.heap.size Val.cells 3 A9 row := ((HR.out.2 rt[k] (List.getElem_mem hk)).2 _ hmr).1
          have hk8 : k < rt.length := hk
          clear hc5 hs hkey hfind hmr hseq
          cases hmem : decide ((⟨(k : Int), sq⟩ : Src) ∈ gone)
          · have HM := Lib.hid hmem
            have HNO : Hid (wantL gone (L.take (i + 1)) = wantL gone (L.take i)) := Lib.hid (by rw [HTK.out, HSI.out, HM.out]; simp)
            clear hmem hrr
            go_wp2_with (go_at_call 30; (with_reducible refine (ref15_Has GA gc gone.length gone ⟨(k : Int), sq⟩ _ (HG.out.next hxr) rfl hg6 HM.out).mono ?_); rintro e w3 ⟨rfl, hb3⟩)
            go_roundw
            case rel => exact ⟨i + 1, by omega, by go_num, by rw [HNO.out, HDD.out]; exact HOWN.out.below hb3 (by omega), by rw [HNO.out]; exact HFIT.out, below_nextN hbr hb3 hwz⟩
            case measure => simp [intOf]; omega
          · have HM := Lib.hid hmem
            clear hmem
            obtain ⟨A5, c5, rfl, hc5, _, hA5⟩ := HOWN.out.slice chg_len
            have hwr : IntKind.i64.wrap (seq + (D.length : Int)) = seq + (D.length : Int) := IntWalk.i64_in _ (by omega)
            by_cases hft : 1073741824 < seq + (D.length : Int)
            · have hft' : decide (1073741824 < seq + (D.length : Int)) = true := by simpa using hft
              have HNOT : Hid (¬ DelOk ts rt gone seq day) := Lib.hid (DelOk.not_fit HLP.out hlt (by rw [HSI.out]; exact of_decide_eq_true HM.out) (by rw [← HDE.out]; exact hft))
              clear hft hrr
              go_wp2_with (go_at_call 30; (with_reducible refine (ref15_Has GA gc gone.length gone ⟨(k : Int), sq⟩ _ (HG.out.next hxr) rfl hg6 HM.out).mono ?_); rintro e w3 ⟨rfl, hb3⟩)
              go_ret
              exact ⟨⟨none, 0, [], rfl, SliceIs.nil, .inr ⟨HNOT.out, rfl⟩⟩, below_nextN hxr hb3 hxr.size⟩
            · have hft' : decide (1073741824 < seq + (D.length : Int)) = false := by simpa using hft
              obtain ⟨b9, o9, rfl, hb9, hc9⟩ := hrr.get hrow
              obtain ⟨y0, y1, y2⟩ := Val.cells3 hc9
              have hyv : row[0] = headV ⟨some ⟨b9, o9, none⟩, c9, row, SA9, sc9, sq9, dy9⟩ := head_row (r := ⟨some ⟨b9, o9, none⟩, c9, row, SA9, sc9, sq9, dy9⟩) hrow
              obtain ⟨y, hy⟩ : ∃ y, row[0] = y := ⟨_, rfl⟩
              have hykey : keyS rt ⟨(k : Int), sq⟩ = y := by rw [HKEY.out, ← hyv, hy]
              rw [hy] at y0 y1 y2
              have HYES : Hid (wantL gone (L.take (i + 1)) = wantL gone (L.take i) ++ [⟨(k : Int), sq⟩]) := Lib.hid (by rw [HTK.out, HSI.out, HM.out]; simp)
              have HSTEP : Hid (delL rt seq day (wantL gone (L.take (i + 1))) = D ++ [⟨3, seq + (D.length : Int), day, (k : Int), none, 0, [], y, 0, ⟨0, 0, ⟨#[]⟩⟩⟩]) := Lib.hid (by
                rw [HYES.out, delL_snoc, HDD.out, ← HDE.out]
                unfold delC
                rw [hykey])
              have HC9 := Lib.hid (And.intro y0 (And.intro y1 y2))
              have HFT := Lib.hid hft
              clear hft hrr hc9 hyv hy hykey y0 y1 y2
              go_upto_region 11 with (go_at_call 30; (with_reducible refine (ref15_Has GA gc gone.length gone ⟨(k : Int), sq⟩ _ (HG.out.next hxr) rfl hg6 HM.out).mono ?_); rintro e w3 ⟨rfl, hb3⟩)
              have hx3 := below_nextN hxr hb3 hxr.size
              have hz3 := hx3.size
              replace s0 := (hb3.cell (p := ⟨b5, _, none⟩) (show b5 < wr.heap.size by omega)).trans s0
              replace s1 := (hb3.cell (p := ⟨b5, _, none⟩) (show b5 < wr.heap.size by omega)).trans s1
              obtain ⟨z0, z1, z2⟩ := HC9.out
              have y0 := (hx3.cell (p := ⟨b9, _, none⟩) hb9).trans z0
              have y1 := (hx3.cell (p := ⟨b9, _, none⟩) hb9).trans z1
              have y2 := (hx3.cell (p := ⟨b9, _, none⟩) hb9).trans z2
              clear z0 z1 z2
              simp only [Nat.zero_mul, Nat.add_zero] at y0 y1 y2
              refine wp_region_held_drew (S := fun u => u.cell? ⟨b5, o5 + i * 2, none⟩ = some (.int .i64 k) ∧ u.cell? ⟨b5, o5 + i * 2 + 1, none⟩ = some (.int .i64 sq) ∧ u.cell? ⟨b9, o9, none⟩ = some (.int .i64 y.kind) ∧ u.cell? ⟨b9, o9 + 1, none⟩ = some (.int .i64 y.num) ∧ u.cell? ⟨b9, o9 + 2, none⟩ = some (.string y.text)) (by kernel_rfl) ⟨s0, s1, y0, y1, y2⟩ (fun hHeld => ?_)
              refine tkH 0 hHeld ?_
              refine tkH 1 hHeld ?_
              refine tkH 2 hHeld ?_
              refine tkH 3 hHeld ?_
              refine tkH 4 hHeld ?_
              refine tkH 5 hHeld ?_
              refine tkH 6 hHeld ?_
              refine tkH 7 hHeld ?_
              refine tkH 8 hHeld ?_
              refine tkH 9 hHeld ?_
              refine tkH 10 hHeld ?_
              refine tkH 11 hHeld ?_
              refine tkH 12 hHeld ?_
              refine tkH 13 hHeld ?_
              refine tkH 14 hHeld ?_
              refine tkH 15 hHeld ?_
              refine wpAnyH_ready (rs := [16]) (by kernel_rfl) (by simp) ?_
              refine AllReadyH.cons rfl (fun K hK => ?_) AllReadyH.nil
              go_simp
              (go_at_call 123; (with_reducible refine (ref18_record RA rc rt.length ts rt k sq _ _ (HR.out.next (hx3.drew)) rfl HVV.out hk8 HFIND.out).mono ?_))
              rintro e w4 ⟨rfl, hb4⟩
              have hb4' : Below w3.heap.size w3 w4 := (Below.refl _ _).drew.trans hb4
              have hx4 := below_nextN hx3 hb4' hz3
              replace s0 := (hb4'.cell (p := ⟨b5, _, none⟩) (show b5 < w3.heap.size by have := hb3.size; omega)).trans s0
              replace s1 := (hb4'.cell (p := ⟨b5, _, none⟩) (show b5 < w3.heap.size by have := hb3.size; omega)).trans s1
              replace y0 := (hb4'.cell (p := ⟨b9, _, none⟩) (show b9 < w3.heap.size by omega)).trans y0
              replace y1 := (hb4'.cell (p := ⟨b9, _, none⟩) (show b9 < w3.heap.size by omega)).trans y1
              replace y2 := (hb4'.cell (p := ⟨b9, _, none⟩) (show b9 < w3.heap.size by omega)).trans y2
              have hyw := below_nextN hbr (hb3.trans (hb4'.mono hb3.size)) hwz
              have HO4 := Lib.hid ((HOWN.out.below hb3 (Nat.le_refl _)).below hb4' (Nat.le_refl _))
              have hz4 := hb4'.size
              have hw24 : w2.heap.size ≤ w4.heap.size := hyw.size
              have hl5 : b5 < w4.heap.size := by omega
              have hl9 : b9 < w4.heap.size := by have := hx4.size; omega
              go_wp2_with fail
              refine hK.out _ _ ⟨s0, s1, y0, y1, y2⟩ (fun hHeld => ?_)
              clear hK K
              (try simp only [Act.put, List.getElem_toArray, List.getElem_cons_zero, List.getElem_cons_succ, List.setIfInBounds_toArray, List.set_cons_zero, List.set_cons_succ])
              have hfd : ∀ u, (Instr.field 148 (.agg #[.slice (some ⟨b9, o9, none⟩) row.length c9, .slice SA9 sq9.length sc9, .int .i64 dy9]) 0).run Tryz.prog u = .ok (.slice (some ⟨b9, o9, none⟩) row.length c9) u := fun _ => by kernel_rfl
              refine tkH 17 hHeld ?_
              clear hfd
              refine tkH 18 hHeld ?_
              refine tkH 19 hHeld ?_
              refine tkH 20 hHeld ?_
              have hrowD := HO4.out.row
              obtain ⟨cd, hcd⟩ : ∃ x : Chg, x = ⟨3, seq + (D.length : Int), day, (k : Int), none, 0, [], y, 0, ⟨0, 0, ⟨#[]⟩⟩⟩ := ⟨_, rfl⟩
              have HST2 : Hid (delL rt seq day (wantL gone (L.take (i + 1))) = D ++ [cd]) := Lib.hid (by rw [hcd]; exact HSTEP.out)
              have HCD := Lib.hid hcd
              clear hcd
              refine wpAnyH_ready (rs := [21]) (by kernel_rfl) (by simp) ?_
              refine AllReadyH.cons rfl (fun K hK => ?_) AllReadyH.nil
              go_simp
              refine hK.out _ _ ⟨by go_simp, by go_simp, by go_simp, by go_simp, by go_simp⟩ (fun hHeld => ?_)
              clear hK K
              (try simp only [Act.put, List.getElem_toArray, List.getElem_cons_zero, List.getElem_cons_succ, List.setIfInBounds_toArray, List.set_cons_zero, List.set_cons_succ])
              refine wpAnyH_ready (rs := [22]) (by kernel_rfl) (by simp) ?_
              refine AllReadyH.cons rfl (fun K hK => ?_) AllReadyH.nil
              (refine step_append_list _ rfl (.tmp 54) (.tmp 75) 38 rfl 90 i0 _ Chg.cells 12 128 Tryz.underlying38 hi0 hz0 hz1 hz2 rfl (by omega) chg_len chg_one w2.heap.size (.slice A5 D.length c5) D rfl (HO4.out.alloc _) _ _ _ [cd] rfl rfl (Blk.one (enc := Chg.cells) (x := cd) (by rw [HCD.out]; exact Blk.new' rfl) (by simp)) (by simp; omega) (by simp [maxLen]; omega) (by simp; omega) ?_; intro v6 w6 hown' hg' hat')
              have HOWN' := Lib.hid hown'
              have hb46 : Below w2.heap.size w4 w6 := Below.grown ((Below.refl _ _).alloc (by omega) _) hg' (by simp; omega) hrowD
              clear hown' hg' hat'
              refine hK.out _ _ ⟨(hb46.cell (p := ⟨b5, _, none⟩) hb5).trans s0, (hb46.cell (p := ⟨b5, _, none⟩) hb5).trans s1, (hb46.cell (p := ⟨b9, _, none⟩) (show b9 < w2.heap.size by omega)).trans y0, (hb46.cell (p := ⟨b9, _, none⟩) (show b9 < w2.heap.size by omega)).trans y1, (hb46.cell (p := ⟨b9, _, none⟩) (show b9 < w2.heap.size by omega)).trans y2⟩ (fun hHeld => ?_)
              clear hK K s0 s1 y0 y1 y2
              (try simp only [Act.put, List.getElem_toArray, List.getElem_cons_zero, List.getElem_cons_succ, List.setIfInBounds_toArray, List.set_cons_zero, List.set_cons_succ])
              refine tkH 23 hHeld ?_
              refine wpAnyH_done (by kernel_rfl) ?_ _
              clear hHeld
              go_wp2_with fail
              go_roundw
              case rel => exact ⟨i + 1, by omega, by go_num, by rw [HST2.out]; exact HOWN'.out, by rw [HYES.out, List.length_append, List.length_singleton, ← HDE.out]; have := HFT.out; omega, hyw.trans hb46⟩
              case measure => simp [intOf]; omega
        · have hlt' : decide (i < L.length) = false := by simpa using hlt
          obtain rfl : i = L.length := by omega
          have HFIN : Hid (DelIs ts rt gone seq day D) := Lib.hid (by
            have h := HDD.out
            rw [List.take_length] at h
            rw [← h]
            exact DelIs.yes HVV.out ⟨hd0, hd1⟩ ⟨hq0, hq1⟩ HLP.out HLU.out (by have h := HFIT.out; rwa [List.take_length] at h))
          obtain ⟨A5, c5, rfl, hc5, hs5, hA5⟩ := HOWN.out.slice chg_len
          have HS5 := Lib.hid hs5
          clear hlt hs5
          go_wp2_with fail
          go_ret
          exact ⟨⟨A5, c5, D, rfl, HS5.out, HFIN.out⟩, hxr⟩
    · have HNO : Hid (¬ DelOk ts rt gone seq day) := Lib.hid fun hd => by
        have h1 := hd.dayOk
        have h2 := hd.seqOk
        have e0 : r0 = true := by rw [← hr0]; exact pb_true hd.tabs
        have e1 : r1 = false := by rw [← hr1]; exact decide_eq_false (by omega)
        have e2 : r2 = false := by rw [← hr2]; exact decide_eq_false (by omega)
        have e3 : r3 = false := by rw [← hr3]; exact decide_eq_false (by omega)
        have e4 : r4 = false := by rw [← hr4]; exact decide_eq_false (by omega)
        rw [e0, e1, e2, e3, e4] at hb
        cases hb
      clear hr0 hr1 hr2 hr3 hr4
      go_wp2_with fail
      go_ret
      exact ⟨⟨none, 0, [], rfl, SliceIs.nil, .inr ⟨HNO.out, rfl⟩⟩, hx1⟩
end Go.Proofs.YtlpgmdhnjckplaaGreat
