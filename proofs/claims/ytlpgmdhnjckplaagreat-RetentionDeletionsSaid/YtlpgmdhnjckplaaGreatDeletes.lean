import Derived.Test.YtlpgmdhnjckplaaGreatSup
/-
  The laws of retention: deletions of both sides are compared.
-/
import Derived.Test.YtlpgmdhnjckplaaGreatPDel
import Derived.Test.YtlpgmdhnjckplaaGreatDelR
import Derived.Test.YtlpgmdhnjckplaaGreatSameC
set_option linter.unusedVariables false
set_option linter.unusedSimpArgs false
namespace Go.Proofs.YtlpgmdhnjckplaaGreat
open Go.RowKit Go

theorem delL_le {ts : List Tab} {rt : List RTab} {gone : List Src} {seq day : Int} {l : List Chg} (h : DelIs ts rt gone seq day l) : l.length ≤ 1000000 := by
  rcases h with ⟨h1, L, h2, _, rfl⟩ | ⟨_, rfl⟩
  · have h3 := allSrc_len (rt := rt) (fun i h => (h1.tabs.tab i h (by have := h1.tabs.len; omega)).len) rt.length
    have h4 : (wantE rt gone).length ≤ (allSrc rt rt.length).length := List.length_filter_le ..
    have h5 := h1.tabs.cat.len
    have h6 := h1.tabs.len
    rw [delL_len, h2.length_eq]
    omega
  · simp
set_option maxRecDepth 100000 in
set_option maxHeartbeats 4000000 in
theorem law18_deletes (A : Option Addr) (c m : Nat) (ts : List Tab) (RA : Option Addr) (rc n : Nat) (rt : List RTab) (GA : Option Addr) (gc gn : Nat) (gone : List Src) (seq day : Int) (w : World) (ht : TabsIn w w.heap.size A ts) (hm : ts.length = m) (hs : SaneCat ts) (hok : CatOk ts) (hR : RTabsIn w w.heap.size RA rt) (hn : rt.length = n) (hsr : SaneR rt) (hG : SliceIs w w.heap.size Src.cells 2 GA gone) (hgl : gone.length = gn) (hg6 : gn ≤ 1000000) (hgk : SrcsIn gone) :
    Calls Tryz.prog 32 #[.agg #[.slice A m c, .slice none 0 0, .slice none 0 0, .slice none 0 0, .slice none 0 0, .slice none 0 0, .slice none 0 0, .slice none 0 0], .slice RA n rc, .slice GA gn gc, .int .i64 seq, .int .i64 day] w fun e w' => e = .returned (.bool true) ∧ Below w.heap.size w w' := by
  subst hm hn hgl
  have HT := Lib.hid ht
  have HS := Lib.hid hs
  have HOK := Lib.hid hok
  have HR := Lib.hid hR
  have HSR := Lib.hid hsr
  have HG := Lib.hid hG
  have HGK := Lib.hid hgk
  clear ht hs hok hR hsr hG hgk
  go_enter Tryz.func32, Tryz.ntmps32
  go_upto_region 1 with (fail)
  refine abs_world (P := fun u => Code.wp _ _ _ _ u) (R := fun u => Blk u w.heap.size 34 #[.slice A ts.length c, .slice none 0 0, .slice none 0 0, .slice none 0 0, .slice none 0 0, .slice none 0 0, .slice none 0 0, .slice none 0 0] ∧ Below w.heap.size w u) ⟨?_, ?_⟩ ?_
  · exact Blk.new _ _ _
  · exact belA
  rintro W ⟨hB, hbW⟩
  have HB := Lib.hid hB
  have hzW := hbW.size
  have hdr : Below W.heap.size W W.drew := (Below.refl _ _).drew
  have hx0 := below_nextN hbW hdr hzW
  clear hB
  refine wp_region_held_drew (S := fun u => u.cell? ⟨w.heap.size, 0, none⟩ = some (.slice A ts.length c) ∧ u.cell? ⟨w.heap.size, 1, none⟩ = some (.slice none 0 0) ∧ u.cell? ⟨w.heap.size, 2, none⟩ = some (.slice none 0 0) ∧ u.cell? ⟨w.heap.size, 3, none⟩ = some (.slice none 0 0) ∧ u.cell? ⟨w.heap.size, 4, none⟩ = some (.slice none 0 0) ∧ u.cell? ⟨w.heap.size, 5, none⟩ = some (.slice none 0 0) ∧ u.cell? ⟨w.heap.size, 6, none⟩ = some (.slice none 0 0) ∧ u.cell? ⟨w.heap.size, 7, none⟩ = some (.slice none 0 0)) (by kernel_rfl) (Cat.blk HB.out) (fun hHeld => ?_)
  refine tkH 0 hHeld ?_
  refine tkH 1 hHeld ?_
  refine tkH 2 hHeld ?_
  refine tkH 3 hHeld ?_
  refine tkH 4 hHeld ?_
  refine tkH 6 hHeld ?_
  refine tkH 7 hHeld ?_
  refine tkH 8 hHeld ?_
  refine tkH 9 hHeld ?_
  refine tkH 10 hHeld ?_
  refine wpAnyH_ready (rs := [5]) (by kernel_rfl) (by simp) ?_
  refine AllReadyH.cons rfl (fun K hK => ?_) AllReadyH.nil
  go_simp
  (go_at_call 78; (with_reducible refine (ret_Deletions A c ts.length ts RA rc rt.length rt GA gc gone.length gone seq day _ (HT.out.next hx0) rfl HS.out HOK.out (HR.out.next hx0) rfl HSR.out (HG.out.next hx0) rfl hg6 HGK.out).mono ?_))
  rintro e w1 ⟨⟨EA, ec, l, rfl, hl, hd⟩, hb1⟩
  have hy1 := hdr.trans hb1
  have hx1 := below_nextN hbW hy1 hzW
  have hz1 := hx1.size
  have hB1 := HB.out.below hy1 HB.out.lt
  have HL := Lib.hid hl
  have HD := Lib.hid hd
  clear hl hd hb1
  go_wp2_with fail
  refine hK.out _ _ (Cat.blk hB1) (fun hHeld => ?_)
  clear hK K
  (try simp only [Act.put, List.getElem_toArray, List.getElem_cons_zero, List.getElem_cons_succ, List.setIfInBounds_toArray, List.set_cons_zero, List.set_cons_succ])
  refine wpAnyH_ready (rs := [11]) (by kernel_rfl) (by simp) ?_
  refine AllReadyH.cons rfl (fun K hK => ?_) AllReadyH.nil
  go_simp
  (go_at_call 79; (with_reducible refine (ref18_Deletions A c ts.length ts RA rc rt.length rt GA gc gone.length gone seq day _ (HT.out.next hx1) rfl HS.out (HR.out.next hx1) rfl HSR.out (HG.out.next hx1) rfl hg6).mono ?_))
  rintro e w2 ⟨⟨EB, ed, l2, rfl, hl2, hd2⟩, hb2⟩
  have hB2 := hB1.below hb2 hB1.lt
  have hx2 := below_nextN hx1 hb2 hz1
  have hz2 := hx2.size
  obtain rfl := DelIs.one HD.out hd2
  have HL1 := Lib.hid (HL.out.next hb2)
  have HL2 := Lib.hid hl2
  have hl6 := delL_le HD.out
  clear hl2 hd2 hb2 hB1
  go_wp2_with fail
  refine hK.out _ _ (Cat.blk hB2) (fun hHeld => ?_)
  clear hK K
  (try simp only [Act.put, List.getElem_toArray, List.getElem_cons_zero, List.getElem_cons_succ, List.setIfInBounds_toArray, List.set_cons_zero, List.set_cons_succ])
  refine wpAnyH_ready (rs := [12]) (by kernel_rfl) (by simp) ?_
  refine AllReadyH.cons rfl (fun K hK => ?_) AllReadyH.nil
  go_simp
  (go_at_call 77; (with_reducible refine (ref18_Same EA EB ec ed l.length l _ HL1.out HL2.out rfl hl6 HD.out.row).mono ?_))
  rintro e w3 ⟨rfl, hb3⟩
  have hB3 := hB2.below hb3 hB2.lt
  go_wp2_with fail
  refine hK.out _ _ (Cat.blk hB3) (fun hHeld => ?_)
  clear hK K
  (try simp only [Act.put, List.getElem_toArray, List.getElem_cons_zero, List.getElem_cons_succ, List.setIfInBounds_toArray, List.set_cons_zero, List.set_cons_succ])
  refine tkH 13 hHeld ?_
  refine wpAnyH_done (by kernel_rfl) ?_ _
  go_wp2_with fail
  go_ret
  exact ⟨rfl, below_nextN hx2 hb3 hz2⟩
end Go.Proofs.YtlpgmdhnjckplaaGreat
