import Derived.Test.YtlpgmdhnjckplaaGreatSup
/-
  The reference of retention: the sources of all records, in order.
-/
import Derived.Test.YtlpgmdhnjckplaaGreatRetF
import Derived.Test.YtlpgmdhnjckplaaGreatR23
import Derived.Test.YtlpgmdhnjckplaaGreatR4
set_option linter.unusedVariables false
namespace Go.Proofs.YtlpgmdhnjckplaaGreat
open Go.RowKit Go

set_option maxRecDepth 100000 in
set_option maxHeartbeats 8000000 in
theorem ref18_sources (RA : Option Addr) (rc n : Nat) (ts : List Tab) (rt : List RTab) (w : World) (hR : RTabsIn w w.heap.size RA rt) (hn : rt.length = n) (hok : RTabsOk ts rt) :
    Calls Tryz.prog 122 #[.slice RA n rc] w fun e w' =>
      (∃ A' c' L, e = .returned (.slice A' L.length c') ∧ SliceIs w' w'.heap.size Src.cells 2 A' L ∧ L.Perm (allSrc rt rt.length) ∧ UpS L) ∧ Below w.heap.size w w' := by
  subst hn
  obtain ⟨i0, hi0, hz0, hz1, hz2⟩ := info_parts infoSrc
  have h8 : rt.length ≤ 8 := by rw [hok.len]; exact hok.cat.len
  have h64 : ∀ i (h : i < rt.length), rt[i].recs.length ≤ 64 := fun i h => (hok.tab i h (by have := hok.len; omega)).len
  have H64 := Lib.hid h64
  have HR1 := Lib.hid hR.1
  have HR2 := Lib.hid hR.2
  have HOK := Lib.hid hok
  clear hR hok h64
  go_enter Tryz.func122, Tryz.ntmps122
  go_wp2_with fail
  go_loopw [3, 4] (fun vo vi wr => ∃ (i : Nat) (l : List Src), i ≤ rt.length ∧ vi = .int .i64 i ∧ Owns wr w.heap.size 68 Src.cells 2 vo l ∧ l.Perm (allSrc rt i) ∧ UpS l ∧ Below w.heap.size w wr) (fun _ vi _ => rt.length - (intOf vi).toNat)
  case atStart => exact ⟨0, [], Nat.zero_le _, rfl, Owns.nil, List.Perm.refl _, List.Pairwise.nil, Below.refl _ _⟩
  case round =>
    obtain ⟨i, l, hi, rfl, hown, hp, hu, hbr⟩ := hrel
    have hwz := hbr.size
    have hrow := hown.row
    have hll : l.length ≤ 64 * i := by rw [hp.length_eq]; exact allSrc_len H64.out i
    have HOWN := Lib.hid hown
    have HP := Lib.hid hp
    have HU := Lib.hid hu
    clear hown hp hu
    by_cases hlt : i < rt.length
    · obtain ⟨V, rfl⟩ : ∃ V : World, V = wr := ⟨_, rfl⟩
      have hlts : i < ts.length := by have := HOK.out.len; omega
      have htab := HOK.out.tab i hlt hlts
      have hcpos := (HOK.out.cat.cols hlts).1
      have hrin : RecsIn w w.heap.size rt[i].A rt[i].recs := HR2.out rt[i] (List.getElem_mem hlt)
      obtain ⟨b6, o6, rfl, hb6, hc6⟩ := HR1.out.get hlt
      have q0 := hc6 0 _ rfl
      simp only [Nat.mul_one, Nat.add_zero] at q0
      obtain ⟨recs, hrecs⟩ : ∃ l, rt[i].recs = l := ⟨_, rfl⟩
      obtain ⟨RI, hRI⟩ : ∃ a, rt[i].A = a := ⟨_, rfl⟩
      have HREC : Hid (recsI rt i = recs) := Lib.hid (by rw [recsI_get hlt, hrecs])
      rw [hrecs] at q0 hrin htab
      rw [hRI] at q0 hrin
      have HRI := Lib.hid hrin.1
      have HRI2 := Lib.hid hrin.2
      have HTAB := Lib.hid htab
      have hr64 := htab.len
      have HQ0 := Lib.hid q0
      clear hc6 hrin hrecs htab hRI q0
      go_upto_region 4 with (fail)
      go_loopw [5, 6] (fun vp vk wi => ∃ (k : Nat) (A2 : Option Addr) (c2 : Nat) (part : List Src), k ≤ recs.length ∧ vk = .int .i64 k ∧ vp = .slice A2 part.length c2 ∧ part.length ≤ c2 ∧ SliceIs wi wi.heap.size Src.cells 2 A2 part ∧ part.Perm ((recs.take k).map (srcR i)) ∧ UpS part ∧ Below V.heap.size V wi) (fun _ vk _ => recs.length - (intOf vk).toNat)
      case atStart => exact ⟨0, none, 0, [], Nat.zero_le _, rfl, rfl, Nat.le_refl _, SliceIs.nil, List.Perm.refl _, List.Pairwise.nil, Below.refl _ _⟩
      case round =>
        obtain ⟨k, A2, c2, part, hk, rfl, rfl, hcap, hsP, hpp, hpu, hbk⟩ := hrel
        have hkz := hbk.size
        have hxk := below_nextN hbr hbk hbr.size
        have hpl : part.length ≤ k := by rw [hpp.length_eq]; simp; omega
        have HSP := Lib.hid hsP
        have HPP := Lib.hid hpp
        have HPU := Lib.hid hpu
        have q0 := (hxk.cell (p := ⟨b6, o6 + i, none⟩) hb6).trans HQ0.out
        clear hsP hpp hpu
        by_cases hkl : k < recs.length
        · obtain ⟨b7, o7, rfl, hb7, hc7⟩ := (HRI.out.below hxk).get hkl
          obtain ⟨_, g1, _⟩ := Rcd.cells3 hc7
          have hat := (HTAB.out.at_ k hkl).ok
          have hsl : 0 < recs[k].seq.length := by rw [hat.slen]; exact hcpos
          obtain ⟨b8, o8, hA8, hb8, hc8⟩ := ((HRI2.out recs[k] (List.getElem_mem hkl)).2.below hxk).get hsl
          have s0 := hc8 0 _ rfl
          rw [hA8] at g1
          have hhd : recs[k].seq[0] = headS recs[k] := head_seq hsl
          rw [hhd] at s0
          simp only [Nat.zero_mul, Nat.add_zero] at s0
          obtain ⟨hd, hhe⟩ : ∃ q, headS recs[k] = q := ⟨_, rfl⟩
          rw [hhe] at s0
          have hsrc : srcR i recs[k] = ⟨(i : Int), hd⟩ := by unfold srcR; rw [hhe]
          have HPN0 : Hid (∀ m, (part.take m ++ ((⟨(i : Int), hd⟩ : Src) :: part.drop m)).Perm ((recs.take (k + 1)).map (srcR i))) := Lib.hid fun m => by
            refine (insS_perm part ⟨(i : Int), hd⟩ m).trans ?_
            rw [List.take_succ_eq_append_getElem hkl, List.map_append, List.map_singleton, hsrc]
            exact (HPP.out.cons _).trans (List.perm_append_singleton _ _).symm
          clear hc7 hc8 hat hhd hA8 hhe hsrc
          go_upto_region 9 with (fail)
          go_upto_region 10 with (fail)
          refine abs_world (P := fun u => Code.wp _ _ _ _ u) (R := fun u => Blk u wr.heap.size 68 #[.int .i64 i, .int .i64 hd] ∧ Below wr.heap.size wr u) ⟨?_, ?_⟩ ?_
          · first | exact (Blk.new' (by simp)).drew | exact Blk.new' (by simp)
          · exact belA
          rintro U ⟨hB, hbU⟩
          obtain ⟨bx, hbxe⟩ : ∃ bx : Nat, bx = wr.heap.size := ⟨_, rfl⟩
          rw [← hbxe] at hB ⊢
          have hyU := below_nextN hbk hbU hkz
          have hUlt := hB.lt
          have HB := Lib.hid hB
          have HS2 := Lib.hid (HSP.out.next hbU)
          clear hB g1 s0 q0 hbxe
          go_wp2_with fail
          go_loopw [8] (fun vm wj => ∃ m : Nat, m ≤ part.length ∧ vm = .int .i64 m ∧ Below U.heap.size U wj ∧ (∀ j (h : j < part.length), j < m → lessS part[j] ⟨(i : Int), hd⟩)) (fun vm _ => part.length - (intOf vm).toNat)
          case atStart => exact ⟨0, Nat.zero_le _, rfl, Below.refl _ _, fun j _ h => by omega⟩
          case round =>
            obtain ⟨m, hm, rfl, hbi, hlo⟩ := hrel
            have HLO := Lib.hid hlo
            clear hlo
            have hbiz := hbi.size
            have hix := below_nextN hyU hbi hyU.size
            have hixz := hix.size
            have hxi := below_nextN hbr hix hbr.size
            have e0 := (HB.out.below hbi hUlt).cell 0
            have e1 := (HB.out.below hbi hUlt).cell 1
            simp only [List.getElem?_toArray, List.getElem?_cons_zero, List.getElem?_cons_succ] at e0 e1
            have hkx := keepQ (w := wr) bx (by omega)
            by_cases hml : m < part.length
            · obtain ⟨b9, o9, rfl, hb9, hc9⟩ := (HS2.out.next hbi).get hml
              obtain ⟨y0, y1⟩ := Src.cells2 hc9
              have hk9 := keepQ (w := wr) b9 (by omega)
              clear hc9
              cases hls : decide (lessS part[m] ⟨(i : Int), hd⟩)
              · have HLS := Lib.hid hls
                have HUN := Lib.hid (insS_up HPU.out hm HLO.out (fun _ => of_decide_eq_false hls))
                have HPN := Lib.hid (HPN0.out m)
                clear hls
                go_upto_region 12 with (fail)
                refine wp_region_bel (by kernel_rfl) (by kernel_rfl) ?_; (repeat (go_big_quiet_step ((go_at_call 103; with_reducible exact bel_of_ext (ref15_Less part[m] ⟨(i : Int), hd⟩ _ HLS.out))))); refine wpQuiet_nil ?_; intro wq hq
                have hqz := hq.size
                obtain ⟨kx, _, hzz⟩ := keepB hq bx (by omega)
                have e0 := (kx _).trans e0
                have e1 := (kx _).trans e1
                clear kx hkx hk9 y0 y1
                have hbel := below_nextN hix hq hixz
                have hl2 := (HS2.out.next hbi).next hq
                have hmc : m ≤ c2 := by omega
                have hcm : ¬ c2 = m := by omega
                have hcut : SliceIs wq wq.heap.size Src.cells 2 (some ⟨b9, o9 + m * 2, none⟩) (part.drop m) := by have h := hl2.cut (c := c2) m hcap; rwa [if_neg hcm] at h
                go_upto_region 14 with (fail)
                go_region_law (first
                | (refine step_append_list _ rfl (.tmp 50) (.tmp 53) 64 rfl 68 i0 _ Src.cells 2 16 Tryz.underlying64 hi0 hz0 hz1 hz2 rfl (by omega) src_len src_one wq.heap.size (.slice (some ⟨wq.heap.size, 0, none⟩) 0 0) [] rfl (Owns.empty (by first | exact ((Blk.new' rfl).alloc _).drew | exact (Blk.new' rfl).alloc _) leA) _ _ _ (part.take m) rfl (by simp; omega) ((hl2.take m).next (by exact belA)) (by simp; omega) (by simp [maxLen]; omega) leA ?_; intro v1 w1 hown1 hg1 hat1; have hb1 : Below wq.heap.size wq w1 := Below.grown (by exact belA) hg1 leA (own_row leA); have hsz1 := hb1.size; have kx1 := (keepB hb1 bx hzz).1; have h40 : Blk w1 (wq.heap.size + 1) 68 #[.int .i64 i, .int .i64 hd] := Blk.grown (by first | exact (Blk.new' (by simp)).drew | exact Blk.new' (by simp)) hg1 (ne_row (by omega)))
                | (refine step_append_list _ rfl (.tmp 50) (.tmp 53) 64 rfl 68 i0 _ Src.cells 2 16 Tryz.underlying64 hi0 hz0 hz1 hz2 rfl (by omega) src_len src_one wq.heap.size (.slice (some ⟨(wq.heap.size + 1), 0, none⟩) 0 0) [] rfl (Owns.empty (by first | exact (Blk.new' (by simp)).drew | exact Blk.new' (by simp)) leA) _ _ _ (part.take m) rfl (by simp; omega) ((hl2.take m).next (by exact belA)) (by simp; omega) (by simp [maxLen]; omega) leA ?_; intro v1 w1 hown1 hg1 hat1; have hb1 : Below wq.heap.size wq w1 := Below.grown (by exact belA) hg1 leA (own_row leA); have hsz1 := hb1.size; have kx1 := (keepB hb1 bx hzz).1; have h40 : Blk w1 wq.heap.size 68 #[.int .i64 i, .int .i64 hd] := Blk.grown (by first | exact ((Blk.new' rfl).alloc _).drew | exact (Blk.new' rfl).alloc _) hg1 (ne_row (by omega)))
                | (refine step_append_list _ rfl (.tmp 50) (.tmp 53) 64 rfl 68 i0 _ Src.cells 2 16 Tryz.underlying64 hi0 hz0 hz1 hz2 rfl (by omega) src_len src_one wq.heap.size (.slice (some ⟨wq.heap.size, 0, none⟩) 0 0) [] rfl (Owns.empty (by first | exact (Blk.new' rfl).drew | exact Blk.new' rfl) leA) _ _ _ (part.take m) rfl (by simp; omega) ((hl2.take m).next (by exact belA)) (by simp; omega) (by simp [maxLen]; omega) leA ?_; intro v1 w1 hown1 hg1 hat1; have hb1 : Below wq.heap.size wq w1 := Below.grown (by exact belA) hg1 leA (own_row leA); have hsz1 := hb1.size; have kx1 := (keepB hb1 bx hzz).1)
                | (refine step_append_list _ rfl (.tmp 54) (.tmp 56) 64 rfl 68 i0 _ Src.cells 2 16 Tryz.underlying64 hi0 hz0 hz1 hz2 rfl (by omega) src_len src_one wq.heap.size v1 ([] ++ part.take m) rfl (by first | exact hown1 | exact hown1.alloc _) _ _ _ [⟨(i : Int), hd⟩] rfl rfl (by first | exact Blk.one (enc := Src.cells) (x := ⟨(i : Int), hd⟩) (Blk.new' (by simp)) (by simp) | exact Blk.one (enc := Src.cells) (x := ⟨(i : Int), hd⟩) h40 h40.lt) (by simp; omega) (by simp [maxLen]; omega) (by have := hb1.size; simp; omega) ?_; intro v2 w2 hown2 hg2 hat2; have hb2 : Below wq.heap.size wq w2 := Below.grown (by exact belA) hg2 (by have := hb1.size; simp; omega) hown1.row; have hsz2 := hb2.size)
                | (refine step_append_list _ rfl (.tmp 57) (.tmp 60) 64 rfl 68 i0 _ Src.cells 2 16 Tryz.underlying64 hi0 hz0 hz1 hz2 rfl (by omega) src_len src_one wq.heap.size v2 ([] ++ part.take m ++ [⟨(i : Int), hd⟩]) rfl hown2 _ _ _ (part.drop m) rfl (by simp) (hcut.next hb2) (by simp; omega) (by simp [maxLen]; omega) hb2.size ?_; intro v3 w3 hown3 hg3 hat3; have hb3 : Below wq.heap.size wq w3 := Below.grown hb2 hg3 hb2.size hown2.row; obtain ⟨A3, c3, rfl, hc3, hs3, _⟩ := hown3.slice src_len))
                all_goals go_wp2_with fail
                all_goals go_roundw
                all_goals (try (case rel => exact ⟨k + 1, A3, c3, part.take m ++ ((⟨(i : Int), hd⟩ : Src) :: part.drop m), by omega, by go_num, by simp; omega, by simpa using hc3, by simpa using hs3, HPN.out, HUN.out, below_nextN hbel hb3 hbel.size⟩))
                all_goals (try (simp [intOf]; omega))
              · have HLS := Lib.hid hls
                have HLL := Lib.hid (of_decide_eq_true hls)
                clear hls
                go_upto_region 12 with (fail)
                refine wp_region_bel (by kernel_rfl) (by kernel_rfl) ?_; (repeat (go_big_quiet_step ((go_at_call 103; with_reducible exact bel_of_ext (ref15_Less part[m] ⟨(i : Int), hd⟩ _ HLS.out))))); refine wpQuiet_nil ?_; intro wq hq
                clear hkx hk9 y0 y1 e0 e1
                go_wp2_with fail
                go_roundw
                case rel => exact ⟨m + 1, by omega, by go_num, below_nextN hbi hq hbiz, fun j h hj => by
                  rcases Nat.lt_or_ge j m with h1 | h1
                  · exact HLO.out j h h1
                  · obtain rfl : j = m := by omega
                    exact HLL.out⟩
                case measure => simp [intOf]; omega
            · have hml' : decide (m < part.length) = false := by simpa using hml
              have hme : m = part.length := by omega
              have HUN := Lib.hid (insS_up HPU.out hm HLO.out (fun h => absurd h hml))
              have HPN := Lib.hid (HPN0.out m)
              have hdr : part.drop m = [] := List.drop_eq_nil_of_le (by omega)
              have HDR := Lib.hid hdr
              have HME := Lib.hid hme
              clear hdr hme
              go_upto_region 12 with (fail)
              refine wp_region_bel (by kernel_rfl) (by kernel_rfl) ?_; (repeat (go_big_quiet_step (fail))); refine wpQuiet_nil ?_; intro wq hq
              have hqz := hq.size
              obtain ⟨kx, _, hzz⟩ := keepB hq bx (by omega)
              have e0 := (kx _).trans e0
              have e1 := (kx _).trans e1
              clear kx hkx
              have hbel := below_nextN hix hq hixz
              have hl2 := (HS2.out.next hbi).next hq
              have hmc : m ≤ c2 := by omega
              have hcut : ∀ A', SliceIs wq wq.heap.size Src.cells 2 A' (part.drop m) := fun A' => by rw [HDR.out]; exact SliceIs.nil
              clear hml' hml
              go_upto_region 14 with (fail)
              go_region_law (first
              | (refine step_append_list _ rfl (.tmp 50) (.tmp 53) 64 rfl 68 i0 _ Src.cells 2 16 Tryz.underlying64 hi0 hz0 hz1 hz2 rfl (by omega) src_len src_one wq.heap.size (.slice (some ⟨wq.heap.size, 0, none⟩) 0 0) [] rfl (Owns.empty (by first | exact ((Blk.new' rfl).alloc _).drew | exact (Blk.new' rfl).alloc _) leA) _ _ _ (part.take m) rfl (by simp; omega) ((hl2.take m).next (by exact belA)) (by simp; omega) (by simp [maxLen]; omega) leA ?_; intro v1 w1 hown1 hg1 hat1; have hb1 : Below wq.heap.size wq w1 := Below.grown (by exact belA) hg1 leA (own_row leA); have hsz1 := hb1.size; have kx1 := (keepB hb1 bx hzz).1; have h40 : Blk w1 (wq.heap.size + 1) 68 #[.int .i64 i, .int .i64 hd] := Blk.grown (by first | exact (Blk.new' (by simp)).drew | exact Blk.new' (by simp)) hg1 (ne_row (by omega)))
              | (refine step_append_list _ rfl (.tmp 50) (.tmp 53) 64 rfl 68 i0 _ Src.cells 2 16 Tryz.underlying64 hi0 hz0 hz1 hz2 rfl (by omega) src_len src_one wq.heap.size (.slice (some ⟨(wq.heap.size + 1), 0, none⟩) 0 0) [] rfl (Owns.empty (by first | exact (Blk.new' (by simp)).drew | exact Blk.new' (by simp)) leA) _ _ _ (part.take m) rfl (by simp; omega) ((hl2.take m).next (by exact belA)) (by simp; omega) (by simp [maxLen]; omega) leA ?_; intro v1 w1 hown1 hg1 hat1; have hb1 : Below wq.heap.size wq w1 := Below.grown (by exact belA) hg1 leA (own_row leA); have hsz1 := hb1.size; have kx1 := (keepB hb1 bx hzz).1; have h40 : Blk w1 wq.heap.size 68 #[.int .i64 i, .int .i64 hd] := Blk.grown (by first | exact ((Blk.new' rfl).alloc _).drew | exact (Blk.new' rfl).alloc _) hg1 (ne_row (by omega)))
              | (refine step_append_list _ rfl (.tmp 50) (.tmp 53) 64 rfl 68 i0 _ Src.cells 2 16 Tryz.underlying64 hi0 hz0 hz1 hz2 rfl (by omega) src_len src_one wq.heap.size (.slice (some ⟨wq.heap.size, 0, none⟩) 0 0) [] rfl (Owns.empty (by first | exact (Blk.new' rfl).drew | exact Blk.new' rfl) leA) _ _ _ (part.take m) rfl (by simp; omega) ((hl2.take m).next (by exact belA)) (by simp; omega) (by simp [maxLen]; omega) leA ?_; intro v1 w1 hown1 hg1 hat1; have hb1 : Below wq.heap.size wq w1 := Below.grown (by exact belA) hg1 leA (own_row leA); have hsz1 := hb1.size; have kx1 := (keepB hb1 bx hzz).1)
              | (refine step_append_list _ rfl (.tmp 54) (.tmp 56) 64 rfl 68 i0 _ Src.cells 2 16 Tryz.underlying64 hi0 hz0 hz1 hz2 rfl (by omega) src_len src_one wq.heap.size v1 ([] ++ part.take m) rfl (by first | exact hown1 | exact hown1.alloc _) _ _ _ [⟨(i : Int), hd⟩] rfl rfl (by first | exact Blk.one (enc := Src.cells) (x := ⟨(i : Int), hd⟩) (Blk.new' (by simp)) (by simp) | exact Blk.one (enc := Src.cells) (x := ⟨(i : Int), hd⟩) h40 h40.lt) (by simp; omega) (by simp [maxLen]; omega) (by have := hb1.size; simp; omega) ?_; intro v2 w2 hown2 hg2 hat2; have hb2 : Below wq.heap.size wq w2 := Below.grown (by exact belA) hg2 (by have := hb1.size; simp; omega) hown1.row; have hsz2 := hb2.size)
              | (refine step_append_list _ rfl (.tmp 57) (.tmp 60) 64 rfl 68 i0 _ Src.cells 2 16 Tryz.underlying64 hi0 hz0 hz1 hz2 rfl (by omega) src_len src_one wq.heap.size v2 ([] ++ part.take m ++ [⟨(i : Int), hd⟩]) rfl hown2 _ _ _ (part.drop m) rfl (by simp) ((hcut _).next hb2) (by simp; omega) (by simp [maxLen]; omega) hb2.size ?_; intro v3 w3 hown3 hg3 hat3; have hb3 : Below wq.heap.size wq w3 := Below.grown hb2 hg3 hb2.size hown2.row; obtain ⟨A3, c3, rfl, hc3, hs3, _⟩ := hown3.slice src_len))
              all_goals go_wp2_with fail
              all_goals go_roundw
              all_goals (try (case rel => exact ⟨k + 1, A3, c3, part.take m ++ ((⟨(i : Int), hd⟩ : Src) :: part.drop m), by omega, by go_num, by simp; omega, by simpa using hc3, by simpa using hs3, HPN.out, HUN.out, below_nextN hbel hb3 hbel.size⟩))
              all_goals (try (simp [intOf]; omega))
        · have hkl' : decide (k < recs.length) = false := by simpa using hkl
          obtain rfl : k = recs.length := by omega
          have HNX := Lib.hid (upS_append HU.out HPU.out HP.out (by rw [HREC.out]; have h := HPP.out; rwa [List.take_length] at h))
          have ho := HOWN.out.below hbk (Nat.le_refl _)
          have HO := Lib.hid ho
          have hxkz := hxk.size
          clear hkl ho
          go_wp2_with (at_builtin; go_must (refine wpList_append_list _ rfl (.tmp 62) (.tmp 63) 64 rfl 68 i0 _ Src.cells 2 16 Tryz.underlying64 hi0 hz0 hz1 hz2 rfl (by omega) src_len src_one w.heap.size u3 l rfl HO.out _ _ _ part rfl rfl HSP.out (by omega) (by unfold maxLen; omega) (by omega) ?_); intro v' w3 hown' hg' hat'; have HOWN' := Lib.hid hown'; clear hown'; have hbel : Below w.heap.size w w3 := Below.grown hxk hg' (by omega) hrow)
          go_roundw
          case rel => exact ⟨i + 1, l ++ part, by omega, by go_num, HOWN'.out, HNX.out.2, HNX.out.1, hbel⟩
          case measure => simp [intOf]; omega
    · have hlt' : decide (i < rt.length) = false := by simpa using hlt
      obtain rfl : i = rt.length := by omega
      obtain ⟨A', c', rfl, _, hs, _⟩ := HOWN.out.slice src_len
      have HSF := Lib.hid hs
      clear hs
      go_wp2_with fail
      go_ret
      exact ⟨⟨A', c', l, rfl, HSF.out, HP.out, HU.out⟩, hbr⟩
end Go.Proofs.YtlpgmdhnjckplaaGreat
