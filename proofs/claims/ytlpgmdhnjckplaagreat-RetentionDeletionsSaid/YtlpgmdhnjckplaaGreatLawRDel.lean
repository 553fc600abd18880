import Derived.Test.YtlpgmdhnjckplaaGreatSup
/-
  The law RetentionDeletions, walked.
-/
import Derived.Test.YtlpgmdhnjckplaaGreatDeletes
import Derived.Test.YtlpgmdhnjckplaaGreatSrcs
import Derived.Test.YtlpgmdhnjckplaaGreatSpT
import Derived.Test.YtlpgmdhnjckplaaGreatReplB
import Derived.Test.YtlpgmdhnjckplaaGreatR23
import Derived.Test.YtlpgmdhnjckplaaGreatR14
import Derived.Test.YtlpgmdhnjckplaaGreatR10
import Derived.Test.YtlpgmdhnjckplaaGreatR2
set_option linter.unusedVariables false
set_option linter.unusedSimpArgs false
namespace Go.Proofs.YtlpgmdhnjckplaaGreat
open Go.RowKit Go

theorem RShape.small {ts : List Tab} {rt : List RTab} (h : RShape ts rt) (hok : CatOk ts) : SmallR rt ∧ rt.length ≤ 8 ∧ ∀ t ∈ rt, t.recs.length ≤ 64 := by
  have hl := h.len
  have hl8 := hok.len
  refine ⟨⟨by omega, fun t ht => ?_, fun t ht r hr => ?_, fun t ht r hr => ?_⟩, by omega, fun t ht => ?_⟩
  all_goals
    obtain ⟨i, hi, rfl⟩ := List.getElem_of_mem ht
    have hi' : i < ts.length := by omega
    have h1 := h.tab hi hi'
    have h2 := (hok.cols hi').2
  · omega
  · have := (h1.2 r hr).1; omega
  · have := (h1.2 r hr).2; omega
  · omega
set_option maxRecDepth 100000 in
set_option maxHeartbeats 8000000 in
theorem retdel_walk (A : Option Addr) (c : Nat) (t : List Int) (seq day : Int) (w : World) (hl : SliceIs w w.heap.size intCells 1 A t) (hn : t.length * 8 ≤ 140737488351232) :
    Calls Tryz.prog 7 #[.slice A t.length c, .int .i64 seq, .int .i64 day] w fun e w' => e = .returned (.bool true) ∧ Below w.heap.size w w' := by
  have HL0 := Lib.hid hl
  clear hl
  go_enter Tryz.func7, Tryz.ntmps7
  go_wp2_with fail
  refine (tape_New A c t _ HL0.out hn).mono ?_
  rintro e w1 ⟨⟨g, b, rfl, hg1, hb1, hk1⟩, hx1⟩
  have HK1 := Lib.hid hk1
  have hgl1 := hk1.ltg
  clear hk1 HL0
  go_wp2_with fail
  refine (tape_Tables g b 3 _ HK1.out (by omega) (by omega)).mono ?_
  rintro e w2 ⟨CA, cc, ts, rfl, ht2, hu2, hbd2, hs2, hok2, h02, hl32, hk2, hg2⟩
  have HK2 := Lib.hid hk2
  have HT2 := Lib.hid ht2
  have HU := Lib.hid hu2
  have HS := Lib.hid hs2
  have HOK := Lib.hid hok2
  have hx2 : Below w.heap.size w w2 := Below.grown hx1 hg2 hx1.size (fun q e => by injection e with e; omega)
  have hz2 := hg2.size
  clear hk2 ht2 hu2 hbd2 hs2 hok2 hg2 HK1
  go_upto_region 3 with (fail)
  refine abs_world (P := fun u => Code.wp _ _ _ _ u) (R := fun u => Blk u w2.heap.size 34 #[.slice CA ts.length cc, .slice none 0 0, .slice none 0 0, .slice none 0 0, .slice none 0 0, .slice none 0 0, .slice none 0 0, .slice none 0 0] ∧ Below w2.heap.size w2 u) ⟨?_, ?_⟩ ?_
  · exact Blk.new' rfl
  · exact belA
  rintro W ⟨hC, hbW⟩
  have hdr : Below W.heap.size W W.drew := (Below.refl _ _).drew
  have HC := Lib.hid hC
  have hzC := hC.lt
  have HKW := Lib.hid ((HK2.out.below hbW).below hdr)
  have hxW : Below w.heap.size w W.drew := below_nextN (below_nextN hx2 hbW hx2.size) hdr (by have := hx2.size; have := hbW.size; omega)
  have HTW := Lib.hid ((HT2.out.next hbW).next hdr)
  clear hC HK2 HT2
  refine wp_region_held_drew (S := fun u => u.cell? ⟨w2.heap.size, 0, none⟩ = some (.slice CA ts.length cc) ∧ u.cell? ⟨w2.heap.size, 1, none⟩ = some (.slice none 0 0) ∧ u.cell? ⟨w2.heap.size, 2, none⟩ = some (.slice none 0 0) ∧ u.cell? ⟨w2.heap.size, 3, none⟩ = some (.slice none 0 0) ∧ u.cell? ⟨w2.heap.size, 4, none⟩ = some (.slice none 0 0) ∧ u.cell? ⟨w2.heap.size, 5, none⟩ = some (.slice none 0 0) ∧ u.cell? ⟨w2.heap.size, 6, none⟩ = some (.slice none 0 0) ∧ u.cell? ⟨w2.heap.size, 7, none⟩ = some (.slice none 0 0)) (by kernel_rfl) (Cat.blk HC.out) (fun hHeld => ?_)
  refine tkH 0 hHeld ?_
  refine tkH 1 hHeld ?_
  refine tkH 2 hHeld ?_
  refine wpAnyH_ready (rs := [3]) (by kernel_rfl) (by simp) ?_
  refine AllReadyH.cons rfl (fun K hK => ?_) AllReadyH.nil
  go_simp
  (go_at_call 11; refine (tape_History g b w1.heap.size 8 CA cc ts.length ts _ HKW.out hgl1 HTW.out HU.out rfl HS.out HOK.out h02 (by omega)).mono ?_)
  rintro e u1 ⟨LA, lc, l, rfl, hll, hoc, hk3, hg3⟩
  have hzg3 : W.heap.size ≤ u1.heap.size := hg3.size
  have hC1 := (HC.out.drew).grown hg3 (fun e => by injection e with e; omega)
  have hT1 := HTW.out.grown HU.out hgl1 hg3
  have hx3 : Below w.heap.size w u1 := Below.grown hxW hg3 hxW.size (fun q e => by injection e with e; omega)
  have HC1 := Lib.hid hC1
  have HT1 := Lib.hid hT1
  have HK3 := Lib.hid hk3
  have HOC := Lib.hid hoc
  have HLR := Lib.hid hoc.read
  clear hT1 hk3 hoc HKW HTW HC hbW
  go_wp2_with fail
  refine hK.out _ _ (Cat.blk hC1) (fun hHeld => ?_)
  clear hK K
  (try simp only [Act.put, List.getElem_toArray, List.getElem_cons_zero, List.getElem_cons_succ, List.setIfInBounds_toArray, List.set_cons_zero, List.set_cons_succ])
  refine wpAnyH_ready (rs := [4]) (by kernel_rfl) (by simp) ?_
  refine AllReadyH.cons rfl (fun K hK => ?_) AllReadyH.nil
  go_simp
  (go_at_call 26; (with_reducible refine (ref07_Replay CA cc ts.length ts LA lc l.length l _ HT1.out rfl HS.out HOK.out HLR.out rfl (by omega) (fun x hx => Nat.le_trans (HOC.out.len x hx) (by omega))).mono ?_))
  rintro e u2 ⟨⟨RA, rc, rt, rfl, hrl, hrt, hru, hsh, hpu⟩, hb2⟩
  have hz2' := hb2.size
  have hC2 := HC1.out.below hb2 HC1.out.lt
  have HC2 := Lib.hid hC2
  have HT2 := Lib.hid (HT1.out.next hb2)
  have HK2 := Lib.hid (HK3.out.below hb2)
  have HRT2 := Lib.hid hrt
  have HRU : Hid (RUp u1.heap.size RA rt) := Lib.hid hru
  have HRL := Lib.hid hrl
  have HSR := Lib.hid (hsh.sane HOK.out)
  have HSMALL := Lib.hid (hsh.small HOK.out)
  have HSQ := Lib.hid (seqs_in hpu)
  have hx4' : Below w.heap.size w u2 := below_nextN hx3 hb2 hx3.size
  have hgu : g < u1.heap.size := by omega
  clear hrt hru hsh hpu hb2 hrl HT1 HK3 HOC HLR HC1 hC1
  go_wp2_with fail
  refine hK.out _ _ (Cat.blk hC2) (fun hHeld => ?_)
  clear hK K
  (try simp only [Act.put, List.getElem_toArray, List.getElem_cons_zero, List.getElem_cons_succ, List.setIfInBounds_toArray, List.set_cons_zero, List.set_cons_succ])
  refine tkH 5 hHeld ?_
  refine wpAnyH_done (by kernel_rfl) ?_ _
  clear hHeld hC2
  go_wp2_with fail
  refine (tape_Sources g b u1.heap.size RA rc ts.length rt _ HK2.out hgu HRT2.out HRU.out HRL.out HSMALL.out.2.1 HSMALL.out.2.2 HSQ.out).mono ?_
  rintro e u3 ⟨v, gone, rfl, hown, hgk, hgn, hk4, hg4⟩
  obtain ⟨GA, gc, rfl, hgc, hgs, hgA⟩ := hown.slice src_len
  have hz4 := hg4.size
  have hdr4 : Below u3.heap.size u3 u3.drew := (Below.refl _ _).drew
  have hC4 := (HC2.out.grown hg4 (fun e => by injection e with e; omega)).below hdr4 (by have := HC2.out.lt; omega)
  have HC4 := Lib.hid hC4
  have HT4 := Lib.hid ((HT2.out.grown HU.out hgl1 hg4).next hdr4)
  have HRT4 := Lib.hid ((HRT2.out.grown HRU.out hgu hg4).next hdr4)
  have HG4 := Lib.hid (hgs.next hdr4)
  have HGK := Lib.hid hgk
  have HGA : Hid (∀ a, GA = some a → u2.heap.size ≤ a.block) := Lib.hid fun a ha => (hgA a ha).1
  have HK4 := Lib.hid (hk4.below hdr4)
  have hx4 : Below w.heap.size w u3.drew := below_nextN (Below.grown hx4' hg4 hx4'.size (fun q e => by injection e with e; omega)) hdr4 (by have := hx4'.size; omega)
  have hgu4 : u2.heap.size ≤ u3.drew.heap.size := hz4
  have hzc4 : w2.heap.size < u3.drew.heap.size := HC4.out.lt
  replace hgn : gone.length ≤ 1000000 := by omega
  have hguu : g < u2.heap.size := by omega
  clear hown hgk hk4 hgs hgA hg4 HC2 HT2 HRT2 HK2 hx4' hdr4
  go_upto_region 5 with (fail)
  refine wp_region_held_drew (S := fun u => u.cell? ⟨w2.heap.size, 0, none⟩ = some (.slice CA ts.length cc) ∧ u.cell? ⟨w2.heap.size, 1, none⟩ = some (.slice none 0 0) ∧ u.cell? ⟨w2.heap.size, 2, none⟩ = some (.slice none 0 0) ∧ u.cell? ⟨w2.heap.size, 3, none⟩ = some (.slice none 0 0) ∧ u.cell? ⟨w2.heap.size, 4, none⟩ = some (.slice none 0 0) ∧ u.cell? ⟨w2.heap.size, 5, none⟩ = some (.slice none 0 0) ∧ u.cell? ⟨w2.heap.size, 6, none⟩ = some (.slice none 0 0) ∧ u.cell? ⟨w2.heap.size, 7, none⟩ = some (.slice none 0 0)) (by kernel_rfl) (Cat.blk HC4.out) (fun hHeld => ?_)
  clear hC4
  refine tkH 0 hHeld ?_
  refine tkH 1 hHeld ?_
  refine tkH 2 hHeld ?_
  refine wpAnyH_ready (rs := [3]) (by kernel_rfl) (by simp) ?_
  refine AllReadyH.cons rfl (fun K hK => ?_) AllReadyH.nil
  go_simp
  (go_at_call 32; (with_reducible refine (law18_deletes CA cc ts.length ts RA rc ts.length rt GA gc gone.length gone 100 40 _ HT4.out rfl HS.out HOK.out HRT4.out HRL.out HSR.out HG4.out rfl hgn HGK.out).mono ?_))
  rintro e y1 ⟨rfl, hb5⟩
  have hC5 := HC4.out.below hb5 HC4.out.lt
  have HC5 := Lib.hid hC5
  have HT5 := Lib.hid (HT4.out.next hb5)
  have HRT5 := Lib.hid (HRT4.out.next hb5)
  have HG5 := Lib.hid (HG4.out.next hb5)
  have HK5 := Lib.hid (HK4.out.below hb5)
  have hx5 := below_nextN hx4 hb5 hx4.size
  have hz5 := hb5.size
  have hgu5 : u2.heap.size ≤ (y1).heap.size := by omega
  have hzc5 : w2.heap.size < (y1).heap.size := by omega
  clear hb5 HC4 HT4 HRT4 HG4 HK4 hx4 hgu4 hzc4
  go_wp2_with fail
  refine hK.out _ _ (Cat.blk hC5) (fun hHeld => ?_)
  clear hK K
  (try simp only [Act.put, List.getElem_toArray, List.getElem_cons_zero, List.getElem_cons_succ, List.setIfInBounds_toArray, List.set_cons_zero, List.set_cons_succ])
  have HC4 := HC5
  have HT4 := HT5
  have HRT4 := HRT5
  have HG4 := HG5
  have HK4 := HK5
  have hx4 := hx5
  have hgu4 := hgu5
  have hzc4 := hzc5
  clear HC5 HT5 HRT5 HG5 HK5 hx5 hgu5 hzc5
  clear hC5 hz5
  refine tkH 4 hHeld ?_
  refine tkH 5 hHeld ?_
  refine tkH 6 hHeld ?_
  refine tkH 7 hHeld ?_
  refine tkH 8 hHeld ?_
  refine wpAnyH_ready (rs := [9]) (by kernel_rfl) (by simp) ?_
  refine AllReadyH.cons rfl (fun K hK => ?_) AllReadyH.nil
  go_simp
  (go_at_call 32; (with_reducible refine (law18_deletes CA cc ts.length ts RA rc ts.length rt GA gc gone.length gone seq 40 _ HT4.out rfl HS.out HOK.out HRT4.out HRL.out HSR.out HG4.out rfl hgn HGK.out).mono ?_))
  rintro e y2 ⟨rfl, hb5⟩
  have hC5 := HC4.out.below hb5 HC4.out.lt
  have HC5 := Lib.hid hC5
  have HT5 := Lib.hid (HT4.out.next hb5)
  have HRT5 := Lib.hid (HRT4.out.next hb5)
  have HG5 := Lib.hid (HG4.out.next hb5)
  have HK5 := Lib.hid (HK4.out.below hb5)
  have hx5 := below_nextN hx4 hb5 hx4.size
  have hz5 := hb5.size
  have hgu5 : u2.heap.size ≤ (y2).heap.size := by omega
  have hzc5 : w2.heap.size < (y2).heap.size := by omega
  clear hb5 HC4 HT4 HRT4 HG4 HK4 hx4 hgu4 hzc4
  go_wp2_with fail
  refine hK.out _ _ (Cat.blk hC5) (fun hHeld => ?_)
  clear hK K
  (try simp only [Act.put, List.getElem_toArray, List.getElem_cons_zero, List.getElem_cons_succ, List.setIfInBounds_toArray, List.set_cons_zero, List.set_cons_succ])
  have HC4 := HC5
  have HT4 := HT5
  have HRT4 := HRT5
  have HG4 := HG5
  have HK4 := HK5
  have hx4 := hx5
  have hgu4 := hgu5
  have hzc4 := hzc5
  clear HC5 HT5 HRT5 HG5 HK5 hx5 hgu5 hzc5
  clear hC5 hz5
  refine tkH 10 hHeld ?_
  refine tkH 11 hHeld ?_
  refine tkH 12 hHeld ?_
  refine tkH 13 hHeld ?_
  refine tkH 14 hHeld ?_
  refine tkH 15 hHeld ?_
  refine wpAnyH_ready (rs := [16]) (by kernel_rfl) (by simp) ?_
  refine AllReadyH.cons rfl (fun K hK => ?_) AllReadyH.nil
  go_simp
  (go_at_call 32; (with_reducible refine (law18_deletes CA cc ts.length ts RA rc ts.length rt GA gc gone.length gone 100 day _ HT4.out rfl HS.out HOK.out HRT4.out HRL.out HSR.out HG4.out rfl hgn HGK.out).mono ?_))
  rintro e y3 ⟨rfl, hb5⟩
  have hC5 := HC4.out.below hb5 HC4.out.lt
  have HC5 := Lib.hid hC5
  have HT5 := Lib.hid (HT4.out.next hb5)
  have HRT5 := Lib.hid (HRT4.out.next hb5)
  have HG5 := Lib.hid (HG4.out.next hb5)
  have HK5 := Lib.hid (HK4.out.below hb5)
  have hx5 := below_nextN hx4 hb5 hx4.size
  have hz5 := hb5.size
  have hgu5 : u2.heap.size ≤ (y3).heap.size := by omega
  have hzc5 : w2.heap.size < (y3).heap.size := by omega
  clear hb5 HC4 HT4 HRT4 HG4 HK4 hx4 hgu4 hzc4
  go_wp2_with fail
  refine hK.out _ _ (Cat.blk hC5) (fun hHeld => ?_)
  clear hK K
  (try simp only [Act.put, List.getElem_toArray, List.getElem_cons_zero, List.getElem_cons_succ, List.setIfInBounds_toArray, List.set_cons_zero, List.set_cons_succ])
  have HC4 := HC5
  have HT4 := HT5
  have HRT4 := HRT5
  have HG4 := HG5
  have HK4 := HK5
  have hx4 := hx5
  have hgu4 := hgu5
  have hzc4 := hzc5
  clear HC5 HT5 HRT5 HG5 HK5 hx5 hgu5 hzc5
  clear hC5 hz5
  refine tkH 17 hHeld ?_
  refine tkH 18 hHeld ?_
  refine tkH 19 hHeld ?_
  refine tkH 20 hHeld ?_
  refine tkH 21 hHeld ?_
  refine tkH 22 hHeld ?_
  refine wpAnyH_ready (rs := [23]) (by kernel_rfl) (by simp) ?_
  refine AllReadyH.cons rfl (fun K hK => ?_) AllReadyH.nil
  go_simp
  (go_at_call 15; (with_reducible refine (tape_Next g b 3 _ HK4.out (by omega) (by omega)).mono ?_))
  rintro e y4 ⟨r3, rfl, hr3, hk6, hg6⟩
  have hz6 := hg6.size
  have hC6 := HC4.out.grown hg6 (fun e => by injection e with e; omega)
  have HC6 := Lib.hid hC6
  have HT6 := Lib.hid (HT4.out.grown HU.out hgl1 hg6)
  have HRT6 := Lib.hid (HRT4.out.grown HRU.out hgu hg6)
  have HG6 := Lib.hid (HG4.out.grown hg6 (fun a ha e => by have h := HGA.out a ha; injection e with e; omega))
  have HK6 := Lib.hid hk6
  have hx6 : Below w.heap.size w y4 := Below.grown hx4 hg6 hx4.size (fun q e => by injection e with e; omega)
  have hgu6 : u2.heap.size ≤ y4.heap.size := by omega
  have hzc6 : w2.heap.size < y4.heap.size := by omega
  clear hr3 hk6 hg6 HC4 HT4 HRT4 HG4 HK4 hx4 hgu4 hzc4
  go_wp2_with fail
  refine hK.out _ _ (Cat.blk hC6) (fun hHeld => ?_)
  clear hK K
  (try simp only [Act.put, List.getElem_toArray, List.getElem_cons_zero, List.getElem_cons_succ, List.setIfInBounds_toArray, List.set_cons_zero, List.set_cons_succ])
  have HC4 := HC6
  have HT4 := HT6
  have HRT4 := HRT6
  have HG4 := HG6
  have HK4 := HK6
  have hx4 := hx6
  have hgu4 := hgu6
  have hzc4 := hzc6
  clear HC6 HT6 HRT6 HG6 HK6 hx6 hgu6 hzc6
  clear hC6
  refine tkH 24 hHeld ?_
  refine wpAnyH_ready (rs := [25]) (by kernel_rfl) (by simp) ?_
  refine AllReadyH.cons rfl (fun K hK => ?_) AllReadyH.nil
  go_simp
  (go_at_call 32; (with_reducible refine (law18_deletes CA cc ts.length ts RA rc ts.length rt GA gc gone.length gone _ 40 _ HT4.out rfl HS.out HOK.out HRT4.out HRL.out HSR.out HG4.out rfl hgn HGK.out).mono ?_))
  rintro e y5 ⟨rfl, hb5⟩
  have hC5 := HC4.out.below hb5 HC4.out.lt
  have HC5 := Lib.hid hC5
  have HT5 := Lib.hid (HT4.out.next hb5)
  have HRT5 := Lib.hid (HRT4.out.next hb5)
  have HG5 := Lib.hid (HG4.out.next hb5)
  have HK5 := Lib.hid (HK4.out.below hb5)
  have hx5 := below_nextN hx4 hb5 hx4.size
  have hz5 := hb5.size
  have hgu5 : u2.heap.size ≤ (y5).heap.size := by omega
  have hzc5 : w2.heap.size < (y5).heap.size := by omega
  clear hb5 HC4 HT4 HRT4 HG4 HK4 hx4 hgu4 hzc4
  go_wp2_with fail
  refine hK.out _ _ (Cat.blk hC5) (fun hHeld => ?_)
  clear hK K
  (try simp only [Act.put, List.getElem_toArray, List.getElem_cons_zero, List.getElem_cons_succ, List.setIfInBounds_toArray, List.set_cons_zero, List.set_cons_succ])
  have HC4 := HC5
  have HT4 := HT5
  have HRT4 := HRT5
  have HG4 := HG5
  have HK4 := HK5
  have hx4 := hx5
  have hgu4 := hgu5
  have hzc4 := hzc5
  clear HC5 HT5 HRT5 HG5 HK5 hx5 hgu5 hzc5
  clear hC5 hz5
  refine tkH 26 hHeld ?_
  refine tkH 27 hHeld ?_
  refine tkH 28 hHeld ?_
  refine tkH 29 hHeld ?_
  refine tkH 30 hHeld ?_
  refine tkH 32 hHeld ?_
  refine wpAnyH_ready (rs := [31]) (by kernel_rfl) (by simp) ?_
  refine AllReadyH.cons rfl (fun K hK => ?_) AllReadyH.nil
  go_simp
  (go_at_call 28; (with_reducible refine (tape_SpoilTables g b RA rc ts.length rt _ HK4.out HRT4.out HRL.out HSMALL.out.1).mono ?_))
  rintro e y6 ⟨SA, sc, out, rfl, hout, hso, hk6, hg6⟩
  have hz6' := hg6.size
  have hC6 := HC4.out.grown hg6 (fun e => by injection e with e; omega)
  have HC6 := Lib.hid hC6
  have HT6 := Lib.hid (HT4.out.grown HU.out hgl1 hg6)
  have HOUT := Lib.hid hout
  have HSO := Lib.hid hso
  have HG6 := Lib.hid (HG4.out.grown hg6 (fun a ha e => by have h := HGA.out a ha; injection e with e; omega))
  have hx6 : Below w.heap.size w y6 := Below.grown hx4 hg6 hx4.size (fun q e => by injection e with e; omega)
  clear hk6 hg6 hout hso HC4 HT4 HRT4 HG4 HK4 hx4 hgu4 hzc4
  go_wp2_with fail
  refine hK.out _ _ (Cat.blk hC6) (fun hHeld => ?_)
  clear hK K
  (try simp only [Act.put, List.getElem_toArray, List.getElem_cons_zero, List.getElem_cons_succ, List.setIfInBounds_toArray, List.set_cons_zero, List.set_cons_succ])
  refine wpAnyH_ready (rs := [33]) (by kernel_rfl) (by simp) ?_
  refine AllReadyH.cons rfl (fun K hK => ?_) AllReadyH.nil
  go_simp
  (go_at_call 32; (with_reducible refine (law18_deletes CA cc ts.length ts SA sc out.length out GA gc gone.length gone 100 40 _ HT6.out rfl HS.out HOK.out HOUT.out rfl HSO.out HG6.out rfl hgn HGK.out).mono ?_))
  rintro e y7 ⟨rfl, hb7⟩
  have hC7 := HC6.out.below hb7 HC6.out.lt
  have HC7 := Lib.hid hC7
  have hx7 := below_nextN hx6 hb7 hx6.size
  clear hb7 HC6 hx6 hC6
  go_wp2_with fail
  refine hK.out _ _ (Cat.blk hC7) (fun hHeld => ?_)
  clear hK K
  (try simp only [Act.put, List.getElem_toArray, List.getElem_cons_zero, List.getElem_cons_succ, List.setIfInBounds_toArray, List.set_cons_zero, List.set_cons_succ])
  refine tkH 34 hHeld ?_
  refine tkH 35 hHeld ?_
  refine wpAnyH_ready (rs := [36]) (by kernel_rfl) (by simp) ?_
  refine AllReadyH.cons rfl (fun K hK => ?_) AllReadyH.nil
  go_simp
  (go_at_call 25; (with_reducible refine (law18_awake _).mono ?_))
  rintro e y8 ⟨rfl, hb8⟩
  have hC8 := HC7.out.below hb8 HC7.out.lt
  have hx8 := below_nextN hx7 hb8 hx7.size
  go_wp2_with fail
  refine hK.out _ _ (Cat.blk hC8) (fun hHeld => ?_)
  clear hK K
  (try simp only [Act.put, List.getElem_toArray, List.getElem_cons_zero, List.getElem_cons_succ, List.setIfInBounds_toArray, List.set_cons_zero, List.set_cons_succ])
  refine tkH 37 hHeld ?_
  refine tkH 38 hHeld ?_
  refine wpAnyH_done (by kernel_rfl) ?_ _
  go_wp2_with fail
  go_ret
  exact ⟨rfl, hx8⟩
end Go.Proofs.YtlpgmdhnjckplaaGreat
