import Derived.Test.YtlpgmdhnjckplaaGreatSup
/-
  The laws' generator of spoilt tables.
-/
import Derived.Test.YtlpgmdhnjckplaaGreatSpT1
import Derived.Test.YtlpgmdhnjckplaaGreatTVal
set_option linter.unusedVariables false
set_option linter.unusedSimpArgs false
namespace Go.Proofs.YtlpgmdhnjckplaaGreat
open Go.RowKit

/-- Tables that stay small. -/
structure SmallR (rt : List RTab) : Prop where
  len : rt.length ≤ 1000
  recs : ∀ t ∈ rt, t.recs.length ≤ 1000
  row : ∀ t ∈ rt, ∀ r ∈ t.recs, r.row.length ≤ 1000
  seq : ∀ t ∈ rt, ∀ r ∈ t.recs, r.seq.length ≤ 1000
theorem SmallR.sane {l : List RTab} (h : SmallR l) : SaneR l :=
  ⟨by have := h.len; omega, fun t ht => by have := h.recs t ht; omega, fun t ht r hr => by have := h.row t ht r hr; omega, fun t ht r hr => by have := h.seq t ht r hr; omega⟩
theorem SmallR.pure {rt l : List RTab} (h : SmallR rt) (e : l.map pureT = rt.map pureT) : SmallR l := by
  have key : ∀ t ∈ l, ∃ t' ∈ rt, t'.recs.map pureR = t.recs.map pureR := fun t ht => by
    have h1 : pureT t ∈ rt.map pureT := by rw [← e]; exact List.mem_map_of_mem ht
    obtain ⟨t', h2, h3⟩ := List.mem_map.1 h1
    exact ⟨t', h2, h3⟩
  have key2 : ∀ t ∈ l, ∀ r ∈ t.recs, ∃ t' ∈ rt, ∃ r' ∈ t'.recs, pureR r' = pureR r := fun t ht r hr => by
    obtain ⟨t', h2, h3⟩ := key t ht
    have h1 : pureR r ∈ t'.recs.map pureR := by rw [h3]; exact List.mem_map_of_mem hr
    obtain ⟨r', h4, h5⟩ := List.mem_map.1 h1
    exact ⟨t', h2, r', h4, h5⟩
  refine ⟨?_, fun t ht => ?_, fun t ht r hr => ?_, fun t ht r hr => ?_⟩
  · have := congrArg List.length e
    simp only [List.length_map] at this
    rw [this]
    exact h.len
  · obtain ⟨t', h2, h3⟩ := key t ht
    have := congrArg List.length h3
    simp only [List.length_map] at this
    rw [← this]
    exact h.recs t' h2
  · obtain ⟨t', h2, r', h4, h5⟩ := key2 t ht r hr
    have e1 : r'.row = r.row := congrArg Prod.fst h5
    rw [← e1]
    exact h.row t' h2 r' h4
  · obtain ⟨t', h2, r', h4, h5⟩ := key2 t ht r hr
    have e1 : r'.seq = r.seq := congrArg (fun p => p.2.1) h5
    rw [← e1]
    exact h.seq t' h2 r' h4
theorem SmallR.more {l : List RTab} (h : SmallR l) : SaneR (l ++ [zeroT]) := by
  have key : ∀ t ∈ l ++ [zeroT], t ∈ l ∨ t = zeroT := fun t ht => (List.mem_append.1 ht).imp id List.mem_singleton.1
  refine ⟨by have := h.len; simp; omega, fun t ht => ?_, fun t ht r hr => ?_, fun t ht r hr => ?_⟩
  · rcases key t ht with h1 | rfl
    · exact h.sane.recs t h1
    · exact Nat.zero_le _
  · rcases key t ht with h1 | rfl
    · exact h.sane.row t h1 r hr
    · cases hr
  · rcases key t ht with h1 | rfl
    · exact h.sane.seq t h1 r hr
    · cases hr
theorem OwnT.grownG {w w' : World} {base g : Nat} {l : List RTab} (h : OwnT w base l) (hg : w.grownBy w' (some g)) (hgb : g < base) : OwnT w' base l :=
  ⟨fun t ht => (h.tab t ht).grown hg hgb, fun t ht r hr => ⟨(h.row t ht r hr).1.grown hg hgb, (h.row t ht r hr).2.grown hg hgb⟩, h.tapart, h.rapart, h.rself⟩
theorem OwnT.belowG {w w' : World} {base : Nat} {l : List RTab} (h : OwnT w base l) (hb : Below w.heap.size w w') : OwnT w' base l := h.below hb (Nat.le_refl _)
theorem tape_past {w u w5 : World} {g b : Nat} {row : Option Nat} {p : Addr} {v : Value} (hgl : g < w.heap.size) (hbl : b < w.heap.size) (hk : IsTape u g b) (hG : w.grownBy u (some g)) (hg' : u.grownBy w5 row) (hrow : ∀ q, row = some q → w.heap.size ≤ q) (hp : w.heap.size ≤ p.block) : IsTape (w5.setCell p v) g b ∧ w.grownBy (w5.setCell p v) (some g) :=
  ⟨(hk.grownO hg' (fun e => by have := hrow g e.symm; omega) (fun e => by have := hrow b e.symm; omega)).far (by omega) (by omega) _, only_setCell (grown_newO hG hg' hrow) (.inr hp) _⟩
theorem own_eq (A : Option Addr) (n c m d : Nat) : (Value.slice A n c).ownBlock = (Value.slice A m d).ownBlock := by cases A <;> rfl
/-- What spoilt tables are. -/
def SpoiltT (w : World) (g b : Nat) (e : Ending) (w' : World) : Prop := ∃ A' c' out, e = .returned (.slice A' out.length c') ∧ RTabsIn w' w'.heap.size A' out ∧ SaneR out ∧ IsTape w' g b ∧ w.grownBy w' (some g)
theorem ret_len {A : Option Addr} {n m c : Nat} (h : m = n) : Ending.returned (.slice A n c) = .returned (.slice A m c) := by rw [h]
def rcd0 : Rcd := ⟨none, 0, [], none, 0, [], 0⟩
theorem rcd0_own (w : World) (base : Nat) : RowOwn w base rcd0 := ⟨Owns.nil, Owns.nil⟩
set_option maxRecDepth 100000 in
set_option maxHeartbeats 8000000 in
theorem tape_SpoilTables (g b : Nat) (A : Option Addr) (c n : Nat) (rt : List RTab) (w : World) (hk : IsTape w g b) (hl : RTabsIn w w.heap.size A rt) (hln : rt.length = n) (hs : SmallR rt) :
    Calls Tryz.prog 28 #[.pointer (some ⟨g, 0, none⟩), .slice A n c] w fun e w' => SpoiltT w g b e w' := by
  obtain ⟨ir, hir, hzr1, hzr2, hzr3⟩ := info_parts infoRcd
  obtain ⟨it, hit, hzt1, hzt2, hzt3⟩ := info_parts infoRTab
  obtain ⟨ii, hii, hzi1, hzi2, hzi3⟩ := info_parts infoIntT
  have hgl := hk.ltg
  have hbl := hk.lt
  have hn3 : n ≤ 1000 := by rw [← hln]; exact hs.len
  have HK := Lib.hid hk
  have HL := Lib.hid hl
  have HSM := Lib.hid hs
  clear hk hl hs
  go_enter Tryz.func28, Tryz.ntmps28
  go_upto_region 2 with (go_at_call 71; (with_reducible refine (ref07_Copy A c n rt _ HL.out hln HSM.out.sane).mono ?_); rintro e w1 ⟨q, l, rfl, hq, hll, hO, hT, hpu, hb1⟩)
  have HSL := Lib.hid (HSM.out.pure hpu)
  have HK1 := Lib.hid (HK.out.below hb1)
  have hG1 : w.grownBy w1 (some g) := grown_start _ hb1
  have HO1 := Lib.hid hO
  have HT1 := Lib.hid hT
  have hz1 := hb1.size
  have HLL := Lib.hid hll
  clear hO hT hpu HK HL HSM hb1 hln
  by_cases h0 : n = 0
  · have h0' : ((n : Int) == 0) = true := by rw [h0]; rfl
    clear h0
    go_wp2_with fail
    go_ret
    exact ⟨some ⟨q, 0, none⟩, n, l, ret_len HLL.out, HT1.out.read HO1.out, HSL.out.sane, HK1.out, hG1⟩
  have h0' : ((n : Int) == 0) = false := by rw [beq_eq_false_iff_ne]; omega
  go_upto_region 5 with (go_at_call 15; (with_reducible refine (tape_Next g b (n : Int) _ HK1.out (by omega) (by omega)).mono ?_); rintro e w2 ⟨r1, rfl, hr1, hk2, hg2⟩)
  have hr1' : r1 < l.length := by rcases hr1 with h | h <;> omega
  have hr1n : r1 < n := by omega
  have hr1i : (r1 : Int) < (n : Int) := by omega
  have HO2 := Lib.hid (HO1.out.grown hg2 (by omega))
  have HT2 := Lib.hid (HT1.out.grownG hg2 (by omega))
  have hG2 := grown_trans hG1 hg2
  have hz2 := hG2.size
  have HK2 := Lib.hid hk2
  have q0 := HO2.out.getE rtab_len HLL.out.symm hr1' (j := 0) rfl
  simp only [Nat.mul_one, Nat.add_zero] at q0
  have hm3 := HSL.out.recs l[r1] (List.getElem_mem hr1')
  obtain ⟨m, hm⟩ : ∃ m, l[r1].recs.length = m := ⟨_, rfl⟩
  rw [hm] at q0 hm3
  have HM := Lib.hid hm
  clear hk2 hg2 hG1 HO1 HT1 HK1 hm hr1 h0
  by_cases hm0 : m = 0
  · have hm0' : ((m : Int) == 0) = true := by rw [hm0]; rfl
    have HM0 := Lib.hid hm0
    clear hm0
    go_wp2_with fail
    (with_reducible refine (tape_Next g b 2 _ HK2.out (by omega) (by omega)).mono ?_)
    rintro e w3 ⟨r2, rfl, hr2, hk3, hg3⟩
    have HO3 := Lib.hid (HO2.out.grown hg3 (by omega))
    have HT3 := Lib.hid (HT2.out.grownG hg3 (by omega))
    have hG3 := grown_trans hG2 hg3
    have hz3 := hG3.size
    have HK3 := Lib.hid hk3
    clear hk3 hr2 q0
    by_cases h2 : r2 = 0
    · subst h2
      have HRD := Lib.hid (HT3.out.read HO3.out)
      have HD : Hid (SaneR (l.drop 1)) := Lib.hid ⟨by rw [List.length_drop]; have := HSL.out.sane.len; omega, fun t ht => HSL.out.sane.recs t (List.mem_of_mem_drop ht), fun t ht => HSL.out.sane.row t (List.mem_of_mem_drop ht), fun t ht => HSL.out.sane.seq t (List.mem_of_mem_drop ht)⟩
      by_cases h1 : n = 1
      · subst h1
        have HNIL : Hid (l.drop 1 = []) := Lib.hid (List.drop_eq_nil_of_le (by have := HLL.out; omega))
        go_wp2_with fail
        go_ret
        exact ⟨_, _, [], rfl, ⟨SliceIs.nil, fun t ht => by cases ht⟩, ⟨Nat.zero_le _, fun t ht => by (cases ht), fun t ht => by (cases ht), fun t ht => by (cases ht)⟩, HK3.out, hG3⟩
      · have hcut := HRD.out.1.cut (c := n) 1 (by rw [HLL.out]; omega)
        rw [if_neg h1] at hcut
        have HCUT := Lib.hid hcut
        have hn1 : 1 ≤ n := by omega
        have hn1i : (1 : Int) ≤ (n : Int) := by omega
        clear hcut
        go_wp2_with fail
        go_ret
        exact ⟨some ⟨q, 1, none⟩, n - 1, l.drop 1, ret_len (by rw [List.length_drop, HLL.out]), ⟨by simpa using HCUT.out, fun t ht => HRD.out.2 t (List.mem_of_mem_drop ht)⟩, HD.out, HK3.out, hG3⟩
    · have h2' : ((r2 : Int) == 0) = false := by rw [beq_eq_false_iff_ne]; omega
      clear h2
      have q0 := HO3.out.getE rtab_len HLL.out.symm hr1' (j := 0) rfl
      simp only [Nat.mul_one, Nat.add_zero] at q0
      have hnil : l[r1].recs = [] := List.eq_nil_of_length_eq_zero (by have := HM.out; have := HM0.out; omega)
      have HNIL := Lib.hid hnil
      have hoT := HT3.out.tab l[r1] (List.getElem_mem hr1')
      rw [hnil] at hoT q0
      have HOT := Lib.hid hoT
      obtain ⟨TA, hTA⟩ : ∃ x, l[r1].A = x := ⟨_, rfl⟩
      obtain ⟨tc, htc⟩ : ∃ x, l[r1].cap = x := ⟨_, rfl⟩
      rw [hTA, htc] at q0 hoT
      simp only [List.length_nil] at q0 hoT
      have HOT := Lib.hid hoT
      have HTA := Lib.hid hTA
      have HTC := Lib.hid htc
      have hrow := hoT.row
      have hqf : ∀ j, w3.frozen? ⟨q, j, none⟩ = false := fun j => HO3.out.frzE HLL.out.symm j
      clear hnil hoT hTA htc
      go_wp2_with (at_builtin; go_must (refine wpList_append_list _ rfl (.tmp 34) (.tmp 36) 149 rfl 148 ir _ Rcd.cells 3 56 Tryz.underlying149 hir hzr1 hzr2 hzr3 rfl (by omega) rcd_len rcd_one w.heap.size (.slice TA 0 tc) [] rfl (HOT.out.alloc _) _ _ _ [rcd0] rfl rfl (Blk.one (enc := Rcd.cells) (x := rcd0) (Blk.new' rfl) (by simp)) (by simp) (by simp [maxLen]) (by simp; omega) ?_); intro v' w5 hown' hg' hat'; obtain ⟨A3, c3, rfl, _, _, _⟩ := hown'.slice rcd_len; have HOWN' := Lib.hid hown'; have hO5 := owns_past (HO3.out.alloc _) (HOT.out.alloc _) (by decide) hg'; have HG' := Lib.hid hg'; have q5 := hO5.getE rtab_len HLL.out.symm hr1' (j := 0) rfl; have hqf5 : ∀ j, w5.frozen? ⟨q, j, none⟩ = false := fun j => hO5.frzE HLL.out.symm j; simp only [Nat.mul_one, Nat.add_zero] at q5; clear hown' hO5 hg' hat' q0 hqf)
      go_ret
      have hgw := HG'.out
      have hap := app_store (w := w3.alloc (.cells #[.slice none 0 0, .slice none 0 0, .int .i64 0] 148)) (HO3.out.alloc _) HLL.out.symm (HT3.out.belowG (by exact belA)) hr1' (by rw [HTA.out, own_eq _ _ _ 0 tc]; exact hgw) (A3 := A3) (c3 := c3) (new := [rcd0]) HOWN'.out (fun x hx => by rw [List.mem_singleton.1 hx]; exact rcd0_own _ _)
      obtain ⟨ht, hgr⟩ := tape_past (p := ⟨q, r1, none⟩) (v := .slice A3 1 c3) hgl hbl (HK3.out.alloc _) (grown_alloc hG3 _) hgw hrow hq
      exact ⟨some ⟨q, 0, none⟩, n, l.set r1 ⟨A3, c3, [rcd0]⟩, ret_len (by rw [List.length_set, HLL.out]), hap, HSL.out.sane.set (by simp) (fun r hr => by rw [List.mem_singleton.1 hr]; exact ⟨Nat.zero_le _, Nat.zero_le _⟩), ht, hgr⟩
  · have hm0' : ((m : Int) == 0) = false := by rw [beq_eq_false_iff_ne]; omega
    have hoT := HT2.out.tab l[r1] (List.getElem_mem hr1')
    obtain ⟨g1, hA⟩ := own_addr hoT (by rw [HM.out]; omega)
    have hb1 := own_up hoT _ hA
    rw [hA] at q0
    have HA := Lib.hid hA
    have hdr : Below w2.heap.size w2 w2.drew := (Below.refl _ _).drew
    have hmp : 0 < m := by omega
    clear hA hoT hm0
    go_upto_region 10 with (fail)
    refine wp_region_held_drew (S := fun u => u.cell? ⟨q, r1, none⟩ = some (.slice (some ⟨g1, 0, none⟩) m l[r1].cap)) (by kernel_rfl) q0 (fun hHeld => ?_)
    refine tkH 0 hHeld ?_
    refine tkH 1 hHeld ?_
    refine tkH 2 hHeld ?_
    refine tkH 3 hHeld ?_
    refine tkH 4 hHeld ?_
    refine tkH 5 hHeld ?_
    refine tkH 6 hHeld ?_
    refine tkH 7 hHeld ?_
    refine tkH 8 hHeld ?_
    refine tkH 9 hHeld ?_
    refine wpAnyH_ready (rs := [10]) (by kernel_rfl) (by simp) ?_
    refine AllReadyH.cons rfl (fun K hK => ?_) AllReadyH.nil
    go_simp
    (go_at_call 15; (with_reducible refine (tape_Next g b (m : Int) _ (HK2.out.below hdr) (by omega) (by omega)).mono ?_))
    rintro e w3 ⟨r3, rfl, hr3, hk3, hg3⟩
    have hr3' : r3 < l[r1].recs.length := by rw [HM.out]; rcases hr3 with h | h <;> omega
    have hr3i : (r3 : Int) < (m : Int) := by rw [HM.out] at hr3'; omega
    have HO3 := Lib.hid (Owns.grown (HO2.out.drew) hg3 (by omega))
    have HT3 := Lib.hid ((HT2.out.belowG hdr).grownG hg3 (by omega))
    have hG3 := grown_trans (grown_drew hG2) hg3
    have hz3 := hG3.size
    have HK3 := Lib.hid hk3
    have s0 := HO3.out.getE rtab_len HLL.out.symm hr1' (j := 0) rfl
    simp only [Nat.mul_one, Nat.add_zero] at s0
    rw [HA.out, HM.out] at s0
    go_wp2_with fail
    refine hK.out _ _ s0 (fun hHeld => ?_)
    clear hK K hk3 hg3 hr3
    (try simp only [Act.put, List.getElem_toArray, List.getElem_cons_zero, List.getElem_cons_succ, List.setIfInBounds_toArray, List.set_cons_zero, List.set_cons_succ])
    refine tkH 11 hHeld ?_
    refine tkH 12 hHeld ?_
    refine wpAnyH_done (by kernel_rfl) ?_ _
    clear hHeld q0 HO2 HT2 HK2 hG2
    have hoT := HT3.out.tab l[r1] (List.getElem_mem hr1')
    rw [HA.out] at hoT
    have hrO := HT3.out.row l[r1] (List.getElem_mem hr1') l[r1].recs[r3] (List.getElem_mem hr3')
    have hrl := HSL.out.row l[r1] (List.getElem_mem hr1') l[r1].recs[r3] (List.getElem_mem hr3')
    have hsl := HSL.out.seq l[r1] (List.getElem_mem hr1') l[r1].recs[r3] (List.getElem_mem hr3')
    obtain ⟨c0, c1, c2⟩ := Rcd.cells3 (w := w3) (b := g1) (o := r3 * 3) (x := l[r1].recs[r3]) (fun j u hu => hoT.getc rcd_len hr3' hu)
    obtain ⟨a, ha⟩ : ∃ a, l[r1].recs[r3].row.length = a := ⟨_, rfl⟩
    obtain ⟨d, hd⟩ : ∃ d, l[r1].recs[r3].seq.length = d := ⟨_, rfl⟩
    rw [ha] at c0 hrl
    rw [hd] at c1 hsl
    have HAL := Lib.hid ha
    have HDL := Lib.hid hd
    have HRO := Lib.hid hrO
    clear hoT hrO ha hd
    by_cases ha0 : a = 0
    · have e1 : ((a : Int) == 0) = true := by rw [ha0]; rfl
      clear ha0
      go_wp2_with fail
      go_ret
      exact ⟨some ⟨q, 0, none⟩, n, l, ret_len HLL.out, HT3.out.read HO3.out, HSL.out.sane, HK3.out, hG3⟩
    have e1 : ((a : Int) == 0) = false := by rw [beq_eq_false_iff_ne]; omega
    by_cases hd0 : d = 0
    · have e2 : ((d : Int) == 0) = true := by rw [hd0]; rfl
      clear hd0
      go_wp2_with fail
      go_ret
      exact ⟨some ⟨q, 0, none⟩, n, l, ret_len HLL.out, HT3.out.read HO3.out, HSL.out.sane, HK3.out, hG3⟩
    have e2 : ((d : Int) == 0) = false := by rw [beq_eq_false_iff_ne]; omega
    obtain ⟨rb, hRA⟩ := own_addr HRO.out.1 (by rw [HAL.out]; omega)
    obtain ⟨sb, hSA⟩ := own_addr HRO.out.2 (by rw [HDL.out]; omega)
    have hrb := own_up HRO.out.1 _ hRA
    have hsb := own_up HRO.out.2 _ hSA
    have HRA := Lib.hid hRA
    have HSA := Lib.hid hSA
    simp only at hrb hsb
    rw [hRA] at c0
    rw [hSA] at c1
    clear HRO hRA hSA
    go_wp2_with fail
    (with_reducible refine (tape_Next g b 9 _ HK3.out (by omega) (by omega)).mono ?_)
    rintro e w4 ⟨r4, rfl, hr4, hk4, hg4⟩
    have hr4' : r4 < 9 := by rcases hr4 with h | h <;> omega
    have HO4 := Lib.hid (Owns.grown HO3.out hg4 (by omega))
    have HT4 := Lib.hid (HT3.out.grownG hg4 (by omega))
    have hG4 := grown_trans hG3 hg4
    have hz4 := hG4.size
    have HK4 := Lib.hid hk4
    clear hk4 hg4 hr4 c0 c1 c2 s0 HO3 HT3 HK3 hG3
    have hoT := HT4.out.tab l[r1] (List.getElem_mem hr1')
    rw [HA.out] at hoT
    have hrO := HT4.out.row l[r1] (List.getElem_mem hr1') l[r1].recs[r3] (List.getElem_mem hr3')
    obtain ⟨c0, c1, c2⟩ := Rcd.cells3 (w := w4) (b := g1) (o := r3 * 3) (x := l[r1].recs[r3]) (fun j u hu => hoT.getc rcd_len hr3' hu)
    rw [HAL.out, HRA.out] at c0
    rw [HDL.out, HSA.out] at c1
    have hfg : ∀ j, w4.frozen? ⟨g1, j, none⟩ = false := fun j => hoT.frz j
    have HOT := Lib.hid hoT
    have HRO := Lib.hid hrO
    have HSM : Hid (∀ (rw' : List Val) (sq' : List Int) (A1 A2 : Option Addr) (n1 n2 : Nat) (dy : Int), rw'.length ≤ 1000000 → sq'.length ≤ 1000000 → SaneR (l.set r1 ⟨l[r1].A, l[r1].cap, l[r1].recs.set r3 ⟨A1, n1, rw', A2, n2, sq', dy⟩⟩)) := Lib.hid (fun _ _ _ _ _ _ _ h1 h2 => HSL.out.sane.set1 hr1' h1 h2)
    clear hoT hrO
    rcases (show r4 = 0 ∨ r4 = 1 ∨ r4 = 2 ∨ r4 = 3 ∨ r4 = 4 ∨ r4 = 5 ∨ r4 = 6 ∨ r4 = 7 ∨ r4 = 8 by omega) with rfl | rfl | rfl | rfl | rfl | rfl | rfl | rfl | rfl
    · have hro := HRO.out.1
      rw [HRA.out] at hro
      have hap : 0 < l[r1].recs[r3].row.length := by rw [HAL.out]; omega
      obtain ⟨y0, y1, y2⟩ := Val.cells3 (w := w4) (b := rb) (o := 0 * 3) (x := l[r1].recs[r3].row[0]) (fun j u hu => hro.getc val_len hap hu)
      have hfr : ∀ j, w4.frozen? ⟨rb, j, none⟩ = false := fun j => hro.frz j
      simp only [Nat.zero_mul, Nat.zero_add] at y0 y1 y2
      have hap2 : 0 < a := by omega
      have hap3 : (0 : Int) < (a : Int) := by omega
      clear hro hfg
      go_wp2_with fail
      go_ret
      exact ⟨some ⟨q, 0, none⟩, n, _, ret_len (by rw [List.length_set, HLL.out]), row_put (v := ⟨0, 0, ⟨#[]⟩⟩) HO4.out HLL.out.symm HT4.out hr1' hr3' HRA.out (m := 0) hap rfl, HSM.out _ _ _ _ _ _ _ (by simp; have := HAL.out; omega) (by have := HDL.out; omega), ((HK4.out.far (by simp; omega) (by simp; omega) _).far (by simp; omega) (by simp; omega) _).far (by simp; omega) (by simp; omega) _, only_setCell (only_setCell (only_setCell hG4 (.inr (by simp; omega)) _) (.inr (by simp; omega)) _) (.inr (by simp; omega)) _⟩
    · have hro := HRO.out.1
      rw [HRA.out] at hro
      have hrx := hro.row rb rfl
      have hdr : Below w4.heap.size w4 w4.drew := (Below.refl _ _).drew
      have hap2 : 0 < a := by omega
      clear hro
      go_upto_region 18 with (fail)
      refine wp_region_held_drew (S := fun u => u.cell? ⟨g1, r3 * 3, none⟩ = some (.slice (some ⟨rb, 0, none⟩) a l[r1].recs[r3].cap)) (by kernel_rfl) c0 (fun hHeld => ?_)
      refine tkH 0 hHeld ?_
      refine tkH 1 hHeld ?_
      refine tkH 2 hHeld ?_
      refine tkH 3 hHeld ?_
      refine tkH 4 hHeld ?_
      refine tkH 5 hHeld ?_
      refine tkH 6 hHeld ?_
      refine tkH 7 hHeld ?_
      refine tkH 8 hHeld ?_
      refine tkH 9 hHeld ?_
      refine tkH 11 hHeld ?_
      refine wpAnyH_ready (rs := [10]) (by kernel_rfl) (by simp) ?_
      refine AllReadyH.cons rfl (fun K hK => ?_) AllReadyH.nil
      go_simp
      (go_at_call 15; (with_reducible refine (tape_Next g b (a : Int) _ (HK4.out.below hdr) (by omega) (by omega)).mono ?_))
      rintro e w5 ⟨r5, rfl, hr5, hk5, hg5⟩
      have hr5' : r5 < a := by rcases hr5 with h | h <;> omega
      have hr5i : (r5 : Int) < (a : Int) := by omega
      have hg45 : w4.grownBy w5 (some g) := grown_trans (grown_start _ hdr) hg5
      have HO5 := Lib.hid (Owns.grown HO4.out hg45 (by omega))
      have HT5 := Lib.hid (HT4.out.grownG hg45 (by omega))
      have hG5 := grown_trans hG4 hg45
      have HK5 := Lib.hid hk5
      have hz45 := hg45.size
      have hoT5 := HT5.out.tab l[r1] (List.getElem_mem hr1')
      rw [HA.out] at hoT5
      have hfg5 : ∀ j, w5.frozen? ⟨g1, j, none⟩ = false := fun j => hoT5.frz j
      have hg15 : g1 < w5.heap.size := hoT5.blk_lt.2
      obtain ⟨d0, d1, d2⟩ := Rcd.cells3 (w := w5) (b := g1) (o := r3 * 3) (x := l[r1].recs[r3]) (fun j u hu => hoT5.getc rcd_len hr3' hu)
      rw [HAL.out, HRA.out] at d0
      rw [HDL.out, HSA.out] at d1
      clear hk5 hr5 hoT5 hfg c0 c1 c2
      go_wp2_with fail
      refine hK.out _ _ d0 (fun hHeld => ?_)
      clear hK K
      (try simp only [Act.put, List.getElem_toArray, List.getElem_cons_zero, List.getElem_cons_succ, List.setIfInBounds_toArray, List.set_cons_zero, List.set_cons_succ])
      refine wpAnyH_ready (rs := [12]) (by kernel_rfl) (by simp) ?_
      refine AllReadyH.cons rfl (fun K hK => ?_) AllReadyH.nil
      go_simp
      (go_at_call 72; (with_reducible refine (tape_Value g b _ HK5.out).mono ?_))
      rintro e w6 ⟨⟨vk, vn, vt⟩, rfl, hk6, hg6⟩
      have HO6 := Lib.hid (Owns.grown HO5.out hg6 (by omega))
      have HT6 := Lib.hid (HT5.out.grownG hg6 (by omega))
      have hG6 := grown_trans hG5 hg6
      have HK6 := Lib.hid hk6
      have hz56 := hg6.size
      have hoT6 := HT6.out.tab l[r1] (List.getElem_mem hr1')
      rw [HA.out] at hoT6
      obtain ⟨x0, x1, x2⟩ := Rcd.cells3 (w := w6) (b := g1) (o := r3 * 3) (x := l[r1].recs[r3]) (fun j u hu => hoT6.getc rcd_len hr3' hu)
      rw [HAL.out, HRA.out] at x0
      go_wp2_with fail
      refine hK.out _ _ x0 (fun hHeld => ?_)
      clear hK K hk6 hoT6 x1 x2 d0 d1 d2 hfg5
      (try simp only [Act.put, List.getElem_toArray, List.getElem_cons_zero, List.getElem_cons_succ, List.setIfInBounds_toArray, List.set_cons_zero, List.set_cons_succ])
      have hap : r5 < l[r1].recs[r3].row.length := by rw [HAL.out]; exact hr5'
      have hro := (HT6.out.row l[r1] (List.getElem_mem hr1') l[r1].recs[r3] (List.getElem_mem hr3')).1
      rw [HRA.out] at hro
      obtain ⟨y0, y1, y2⟩ := Val.cells3 (w := w6) (b := rb) (o := r5 * 3) (x := l[r1].recs[r3].row[r5]) (fun j u hu => hro.getc val_len hap hu)
      have hfr : ∀ j, w6.frozen? ⟨rb, j, none⟩ = false := fun j => hro.frz j
      have hne : ¬ rb = g1 := fun e => (HT6.out.tab l[r1] (List.getElem_mem hr1')).neType hro (by decide) g1 (by rw [HA.out]; rfl) (by rw [e]; rfl)
      clear hro
      refine tkH 13 hHeld ?_
      refine wpAnyH_ready (rs := [14]) (by kernel_rfl) (by simp) ?_
      refine AllReadyH.cons rfl (fun K hK => ?_) AllReadyH.nil
      go_simp
      refine hK.out _ _ ?_ (fun hHeld => ?_)
      · go_simp
      clear hK K
      (try simp only [Act.put, List.getElem_toArray, List.getElem_cons_zero, List.getElem_cons_succ, List.setIfInBounds_toArray, List.set_cons_zero, List.set_cons_succ])
      refine wpAnyH_done (by kernel_rfl) ?_ _
      clear hHeld x0 y0 y1 y2 hfr
      go_wp2_with fail
      go_ret
      exact ⟨some ⟨q, 0, none⟩, n, _, ret_len (by rw [List.length_set, HLL.out]), row_put (v := ⟨vk, vn, vt⟩) HO6.out HLL.out.symm HT6.out hr1' hr3' HRA.out (m := r5) hap rfl, HSM.out _ _ _ _ _ _ _ (by simp; have := HAL.out; omega) (by have := HDL.out; omega), ((HK6.out.far (by simp; omega) (by simp; omega) _).far (by simp; omega) (by simp; omega) _).far (by simp; omega) (by simp; omega) _, only_setCell (only_setCell (only_setCell hG6 (.inr (by simp; omega)) _) (.inr (by simp; omega)) _) (.inr (by simp; omega)) _⟩
    · have hdr : Below w4.heap.size w4 w4.drew := (Below.refl _ _).drew
      have hdp : 0 < d := by omega
      have hg14 : g1 < w4.heap.size := HOT.out.blk_lt.2
      go_upto_region 20 with (fail)
      refine wp_region_held_drew (S := fun u => u.cell? ⟨g1, r3 * 3 + 1, none⟩ = some (.slice (some ⟨sb, 0, none⟩) d l[r1].recs[r3].scap)) (by kernel_rfl) c1 (fun hHeld => ?_)
      refine tkH 0 hHeld ?_
      refine tkH 1 hHeld ?_
      refine tkH 2 hHeld ?_
      refine tkH 3 hHeld ?_
      refine tkH 4 hHeld ?_
      refine tkH 5 hHeld ?_
      refine tkH 6 hHeld ?_
      refine tkH 7 hHeld ?_
      refine tkH 8 hHeld ?_
      refine tkH 9 hHeld ?_
      refine tkH 12 hHeld ?_
      refine wpAnyH_ready (rs := [10, 11]) (by kernel_rfl) (by simp) ?_
      refine AllReadyH.cons rfl (fun K hK => ?_) (AllReadyH.cons rfl (fun K hK => ?_) AllReadyH.nil)
      · go_simp
        (go_at_call 15; (with_reducible refine (tape_Next g b (d : Int) _ (HK4.out.below hdr) (by omega) (by omega)).mono ?_))
        rintro e w5 ⟨r5, rfl, hr5, hk5, hg5⟩
        have hr5' : r5 < d := by rcases hr5 with h | h <;> omega
        have hr5i : (r5 : Int) < (d : Int) := by omega
        have hg45 : w4.grownBy w5 (some g) := grown_trans (grown_start _ hdr) hg5
        have HO5 := Lib.hid (Owns.grown HO4.out hg45 (by omega))
        have HT5 := Lib.hid (HT4.out.grownG hg45 (by omega))
        have hG5 := grown_trans hG4 hg45
        have HK5 := Lib.hid hk5
        have hz45 := hg45.size
        have hoT5 := HT5.out.tab l[r1] (List.getElem_mem hr1')
        rw [HA.out] at hoT5
        have hfg5 : ∀ j, w5.frozen? ⟨g1, j, none⟩ = false := fun j => hoT5.frz j
        have hg15 : g1 < w5.heap.size := hoT5.blk_lt.2
        obtain ⟨d0, d1, d2⟩ := Rcd.cells3 (w := w5) (b := g1) (o := r3 * 3) (x := l[r1].recs[r3]) (fun j u hu => hoT5.getc rcd_len hr3' hu)
        rw [HAL.out, HRA.out] at d0
        rw [HDL.out, HSA.out] at d1
        clear hk5 hr5 hoT5 hfg c0 c1 c2
        go_wp2_with fail
        refine hK.out _ _ d1 (fun hHeld => ?_)
        clear hK K
        (try simp only [Act.put, List.getElem_toArray, List.getElem_cons_zero, List.getElem_cons_succ, List.setIfInBounds_toArray, List.set_cons_zero, List.set_cons_succ])
        refine wpAnyH_ready (rs := [11, 13]) (by kernel_rfl) (by simp) ?_
        refine AllReadyH.cons rfl (fun K hK => ?_) (AllReadyH.cons rfl (fun K hK => ?_) AllReadyH.nil)
        · go_simp
          refine hK.out _ _ ?_ (fun hHeld => ?_)
          · go_simp
          clear hK K
          (try simp only [Act.put, List.getElem_toArray, List.getElem_cons_zero, List.getElem_cons_succ, List.setIfInBounds_toArray, List.set_cons_zero, List.set_cons_succ])
          refine wpAnyH_ready (rs := [13]) (by kernel_rfl) (by simp) ?_
          refine AllReadyH.cons rfl (fun K hK => ?_) AllReadyH.nil
          go_simp
          (go_at_call 15; (with_reducible refine (tape_Next g b 4 _ ((HK5.out.alloc _)) (by omega) (by omega)).mono ?_))
          rintro e w6 ⟨r6, rfl, hr6, hk6, hg6⟩
          have hr6' : r6 < 4 := by rcases hr6 with h | h <;> omega
          have hr6i : (r6 : Int) < 4 := by omega
          have HO6 := Lib.hid (Owns.grown (HO5.out.alloc _) hg6 (by omega))
          have HT6 := Lib.hid ((HT5.out.belowG (by exact belA)).grownG hg6 (by omega))
          have hG6 := grown_trans (grown_alloc hG5 _) hg6
          have HK6 := Lib.hid hk6
          have hS6 := Blk.grown (Blk.new w5 3 #[.int .i64 0, .int .i64 1, .int .i64 3, .int .i64 1073741825]) hg6 (fun e => by injection e with e; omega)
          have hz6 := hG6.size
          have hoT6 := HT6.out.tab l[r1] (List.getElem_mem hr1')
          rw [HA.out] at hoT6
          obtain ⟨_, x1, _⟩ := Rcd.cells3 (w := w6) (b := g1) (o := r3 * 3) (x := l[r1].recs[r3]) (fun j u hu => hoT6.getc rcd_len hr3' hu)
          rw [HDL.out, HSA.out] at x1
          clear hoT6
          go_wp2_with fail
          refine hK.out _ _ x1 (fun hHeld => ?_)
          clear hK K hk6 hr6 d0 d1 d2 hfg5
          (try simp only [Act.put, List.getElem_toArray, List.getElem_cons_zero, List.getElem_cons_succ, List.setIfInBounds_toArray, List.set_cons_zero, List.set_cons_succ])
          (
          obtain ⟨z, hz⟩ : ∃ z : Int, (w6).cell? ⟨w5.heap.size, r6, none⟩ = some (.int .i64 z) := by
            rw [hS6.cell]
            rcases (show r6 = 0 ∨ r6 = 1 ∨ r6 = 2 ∨ r6 = 3 by omega) with rfl | rfl | rfl | rfl
            all_goals exact ⟨_, rfl⟩
          refine wpAnyH_ready (rs := [14]) (by kernel_rfl) (by simp) ?_
          refine AllReadyH.cons rfl (fun K hK => ?_) AllReadyH.nil
          go_simp
          refine hK.out _ _ x1 (fun hHeld => ?_)
          clear hK K
          (try simp only [Act.put, List.getElem_toArray, List.getElem_cons_zero, List.getElem_cons_succ, List.setIfInBounds_toArray, List.set_cons_zero, List.set_cons_succ])
          refine wpAnyH_ready (rs := [15]) (by kernel_rfl) (by simp) ?_
          refine AllReadyH.cons rfl (fun K hK => ?_) AllReadyH.nil
          go_simp
          refine hK.out _ _ x1 (fun hHeld => ?_)
          clear hK K
          (try simp only [Act.put, List.getElem_toArray, List.getElem_cons_zero, List.getElem_cons_succ, List.setIfInBounds_toArray, List.set_cons_zero, List.set_cons_succ])
          refine tkH 16 hHeld ?_
          have hsp : r5 < l[r1].recs[r3].seq.length := by rw [HDL.out]; exact hr5'
          have hro := (HT6.out.row l[r1] (List.getElem_mem hr1') l[r1].recs[r3] (List.getElem_mem hr3')).2
          rw [HSA.out] at hro
          have y0 := hro.getc int_len hsp (j := 0) rfl
          simp only [Nat.mul_one, Nat.add_zero] at y0
          have hfr : ∀ j, (w6).frozen? ⟨sb, j, none⟩ = false := fun j => hro.frz j
          have hne : ¬ sb = g1 := fun e => (HT6.out.tab l[r1] (List.getElem_mem hr1')).neType hro (by decide) g1 (by rw [HA.out]; rfl) (by rw [e]; rfl)
          clear hro
          refine wpAnyH_ready (rs := [17]) (by kernel_rfl) (by simp) ?_
          refine AllReadyH.cons rfl (fun K hK => ?_) AllReadyH.nil
          go_simp
          refine hK.out _ _ ?_ (fun hHeld => ?_)
          · go_simp
          clear hK K
          (try simp only [Act.put, List.getElem_toArray, List.getElem_cons_zero, List.getElem_cons_succ, List.setIfInBounds_toArray, List.set_cons_zero, List.set_cons_succ])
          refine wpAnyH_done (by kernel_rfl) ?_ _
          clear hHeld x1 y0 hfr hz hS6
          go_wp2_with fail
          go_ret
          exact ⟨some ⟨q, 0, none⟩, n, _, ret_len (by rw [List.length_set, HLL.out]), seq_put (z := z) HO6.out HLL.out.symm HT6.out hr1' hr3' HSA.out (m := r5) hsp rfl, HSM.out _ _ _ _ _ _ _ (by have := HAL.out; omega) (by simp; have := HDL.out; omega), HK6.out.far (by simp; omega) (by simp; omega) _, only_setCell hG6 (.inr (by simp; omega)) _⟩)
        · go_simp
          (go_at_call 15; (with_reducible refine (tape_Next g b 4 _ (HK5.out) (by omega) (by omega)).mono ?_))
          rintro e w6 ⟨r6, rfl, hr6, hk6, hg6⟩
          have hr6' : r6 < 4 := by rcases hr6 with h | h <;> omega
          have hr6i : (r6 : Int) < 4 := by omega
          have HO6' := Lib.hid (Owns.grown HO5.out hg6 (by omega))
          have HT6' := Lib.hid (HT5.out.grownG hg6 (by omega))
          have hG6' := grown_trans hG5 hg6
          have HK6' := Lib.hid hk6
          have hz6' := hG6'.size
          have hoT6 := HT6'.out.tab l[r1] (List.getElem_mem hr1')
          rw [HA.out] at hoT6
          obtain ⟨_, x1', _⟩ := Rcd.cells3 (w := w6) (b := g1) (o := r3 * 3) (x := l[r1].recs[r3]) (fun j u hu => hoT6.getc rcd_len hr3' hu)
          rw [HDL.out, HSA.out] at x1'
          have hg16 : g1 < w6.heap.size := hoT6.blk_lt.2
          go_wp2_with fail
          refine hK.out _ _ x1' (fun hHeld => ?_)
          clear hK K hk6 hr6 d0 d1 d2 hfg5 hoT6
          (try simp only [Act.put, List.getElem_toArray, List.getElem_cons_zero, List.getElem_cons_succ, List.setIfInBounds_toArray, List.set_cons_zero, List.set_cons_succ])
          refine wpAnyH_ready (rs := [11]) (by kernel_rfl) (by simp) ?_
          refine AllReadyH.cons rfl (fun K hK => ?_) AllReadyH.nil
          go_simp
          refine hK.out _ _ ?_ (fun hHeld => ?_)
          · go_simp
          clear hK K
          (try simp only [Act.put, List.getElem_toArray, List.getElem_cons_zero, List.getElem_cons_succ, List.setIfInBounds_toArray, List.set_cons_zero, List.set_cons_succ])
          have hS6 := Blk.new w6 3 #[.int .i64 0, .int .i64 1, .int .i64 3, .int .i64 1073741825]
          obtain ⟨U, hU⟩ : ∃ U, U = w6.alloc (.cells #[.int .i64 0, .int .i64 1, .int .i64 3, .int .i64 1073741825] 3) := ⟨_, rfl⟩
          rw [← hU] at hS6 hHeld ⊢
          have HO6 : Hid (Owns U w.heap.size 149 RTab.cells 1 (.slice (some ⟨q, 0, none⟩) n n) l) := Lib.hid (by rw [hU]; exact HO6'.out.alloc _)
          have HT6 : Hid (OwnT U w.heap.size l) := Lib.hid (by rw [hU]; exact HT6'.out.belowG (by exact belA))
          have hG6 : w.grownBy U (some g) := by rw [hU]; exact grown_alloc hG6' _
          have HK6 : Hid (IsTape U g b) := Lib.hid (by rw [hU]; exact HK6'.out.alloc _)
          clear hU HO6' HT6' hG6' HK6' x1'
          have hz6 := hG6.size
          have hoT6 := HT6.out.tab l[r1] (List.getElem_mem hr1')
          rw [HA.out] at hoT6
          obtain ⟨_, x1, _⟩ := Rcd.cells3 (w := U) (b := g1) (o := r3 * 3) (x := l[r1].recs[r3]) (fun j u hu => hoT6.getc rcd_len hr3' hu)
          rw [HDL.out, HSA.out] at x1
          clear hoT6
          (
          obtain ⟨z, hz⟩ : ∃ z : Int, (U).cell? ⟨w6.heap.size, r6, none⟩ = some (.int .i64 z) := by
            rw [hS6.cell]
            rcases (show r6 = 0 ∨ r6 = 1 ∨ r6 = 2 ∨ r6 = 3 by omega) with rfl | rfl | rfl | rfl
            all_goals exact ⟨_, rfl⟩
          refine wpAnyH_ready (rs := [14]) (by kernel_rfl) (by simp) ?_
          refine AllReadyH.cons rfl (fun K hK => ?_) AllReadyH.nil
          go_simp
          refine hK.out _ _ x1 (fun hHeld => ?_)
          clear hK K
          (try simp only [Act.put, List.getElem_toArray, List.getElem_cons_zero, List.getElem_cons_succ, List.setIfInBounds_toArray, List.set_cons_zero, List.set_cons_succ])
          refine wpAnyH_ready (rs := [15]) (by kernel_rfl) (by simp) ?_
          refine AllReadyH.cons rfl (fun K hK => ?_) AllReadyH.nil
          go_simp
          refine hK.out _ _ x1 (fun hHeld => ?_)
          clear hK K
          (try simp only [Act.put, List.getElem_toArray, List.getElem_cons_zero, List.getElem_cons_succ, List.setIfInBounds_toArray, List.set_cons_zero, List.set_cons_succ])
          refine tkH 16 hHeld ?_
          have hsp : r5 < l[r1].recs[r3].seq.length := by rw [HDL.out]; exact hr5'
          have hro := (HT6.out.row l[r1] (List.getElem_mem hr1') l[r1].recs[r3] (List.getElem_mem hr3')).2
          rw [HSA.out] at hro
          have y0 := hro.getc int_len hsp (j := 0) rfl
          simp only [Nat.mul_one, Nat.add_zero] at y0
          have hfr : ∀ j, (U).frozen? ⟨sb, j, none⟩ = false := fun j => hro.frz j
          have hne : ¬ sb = g1 := fun e => (HT6.out.tab l[r1] (List.getElem_mem hr1')).neType hro (by decide) g1 (by rw [HA.out]; rfl) (by rw [e]; rfl)
          clear hro
          refine wpAnyH_ready (rs := [17]) (by kernel_rfl) (by simp) ?_
          refine AllReadyH.cons rfl (fun K hK => ?_) AllReadyH.nil
          go_simp
          refine hK.out _ _ ?_ (fun hHeld => ?_)
          · go_simp
          clear hK K
          (try simp only [Act.put, List.getElem_toArray, List.getElem_cons_zero, List.getElem_cons_succ, List.setIfInBounds_toArray, List.set_cons_zero, List.set_cons_succ])
          refine wpAnyH_done (by kernel_rfl) ?_ _
          clear hHeld x1 y0 hfr hz hS6
          go_wp2_with fail
          go_ret
          exact ⟨some ⟨q, 0, none⟩, n, _, ret_len (by rw [List.length_set, HLL.out]), seq_put (z := z) HO6.out HLL.out.symm HT6.out hr1' hr3' HSA.out (m := r5) hsp rfl, HSM.out _ _ _ _ _ _ _ (by have := HAL.out; omega) (by simp; have := HDL.out; omega), HK6.out.far (by simp; omega) (by simp; omega) _, only_setCell hG6 (.inr (by simp; omega)) _⟩)
      · go_simp
        refine hK.out _ _ ?_ (fun hHeld => ?_)
        · go_simp
        clear hK K
        (try simp only [Act.put, List.getElem_toArray, List.getElem_cons_zero, List.getElem_cons_succ, List.setIfInBounds_toArray, List.set_cons_zero, List.set_cons_succ])
        refine wpAnyH_ready (rs := [10]) (by kernel_rfl) (by simp) ?_
        refine AllReadyH.cons rfl (fun K hK => ?_) AllReadyH.nil
        go_simp
        (go_at_call 15; (with_reducible refine (tape_Next g b (d : Int) _ ((HK4.out.alloc _).below (Below.refl _ _).drew) (by omega) (by omega)).mono ?_))
        rintro e w5 ⟨r5, rfl, hr5, hk5, hg5⟩
        have hr5' : r5 < d := by rcases hr5 with h | h <;> omega
        have hr5i : (r5 : Int) < (d : Int) := by omega
        have hg45 : w4.grownBy w5 (some g) := grown_trans (grown_start _ (by exact belA)) hg5
        have hS5 : Blk w5 w4.heap.size 3 #[.int .i64 0, .int .i64 1, .int .i64 3, .int .i64 1073741825] := Blk.grown (Blk.drew (Blk.new' rfl)) hg5 (fun e => by injection e with e; omega)
        have HO5 := Lib.hid (Owns.grown HO4.out hg45 (by omega))
        have HT5 := Lib.hid (HT4.out.grownG hg45 (by omega))
        have hG5 := grown_trans hG4 hg45
        have HK5 := Lib.hid hk5
        have hz45 := hg45.size
        have hoT5 := HT5.out.tab l[r1] (List.getElem_mem hr1')
        rw [HA.out] at hoT5
        have hfg5 : ∀ j, w5.frozen? ⟨g1, j, none⟩ = false := fun j => hoT5.frz j
        have hg15 : g1 < w5.heap.size := hoT5.blk_lt.2
        obtain ⟨d0, d1, d2⟩ := Rcd.cells3 (w := w5) (b := g1) (o := r3 * 3) (x := l[r1].recs[r3]) (fun j u hu => hoT5.getc rcd_len hr3' hu)
        rw [HAL.out, HRA.out] at d0
        rw [HDL.out, HSA.out] at d1
        clear hk5 hr5 hoT5 hfg c0 c1 c2
        go_wp2_with fail
        refine hK.out _ _ d1 (fun hHeld => ?_)
        clear hK K
        (try simp only [Act.put, List.getElem_toArray, List.getElem_cons_zero, List.getElem_cons_succ, List.setIfInBounds_toArray, List.set_cons_zero, List.set_cons_succ])
        refine wpAnyH_ready (rs := [13]) (by kernel_rfl) (by simp) ?_
        refine AllReadyH.cons rfl (fun K hK => ?_) AllReadyH.nil
        go_simp
        (go_at_call 15; (with_reducible refine (tape_Next g b 4 _ (HK5.out) (by omega) (by omega)).mono ?_))
        rintro e w6 ⟨r6, rfl, hr6, hk6, hg6⟩
        have hr6' : r6 < 4 := by rcases hr6 with h | h <;> omega
        have hr6i : (r6 : Int) < 4 := by omega
        have HO6 := Lib.hid (Owns.grown HO5.out hg6 (by omega))
        have HT6 := Lib.hid (HT5.out.grownG hg6 (by omega))
        have hG6 := grown_trans hG5 hg6
        have HK6 := Lib.hid hk6
        have hS6 := hS5.grown hg6 (fun e => by injection e with e; omega)
        have hz6 := hG6.size
        have hoT6 := HT6.out.tab l[r1] (List.getElem_mem hr1')
        rw [HA.out] at hoT6
        obtain ⟨_, x1, _⟩ := Rcd.cells3 (w := w6) (b := g1) (o := r3 * 3) (x := l[r1].recs[r3]) (fun j u hu => hoT6.getc rcd_len hr3' hu)
        rw [HDL.out, HSA.out] at x1
        clear hoT6
        go_wp2_with fail
        refine hK.out _ _ x1 (fun hHeld => ?_)
        clear hK K hk6 hr6 d0 d1 d2 hfg5 hS5
        (try simp only [Act.put, List.getElem_toArray, List.getElem_cons_zero, List.getElem_cons_succ, List.setIfInBounds_toArray, List.set_cons_zero, List.set_cons_succ])
        (
        obtain ⟨z, hz⟩ : ∃ z : Int, (w6).cell? ⟨w4.heap.size, r6, none⟩ = some (.int .i64 z) := by
          rw [hS6.cell]
          rcases (show r6 = 0 ∨ r6 = 1 ∨ r6 = 2 ∨ r6 = 3 by omega) with rfl | rfl | rfl | rfl
          all_goals exact ⟨_, rfl⟩
        refine wpAnyH_ready (rs := [14]) (by kernel_rfl) (by simp) ?_
        refine AllReadyH.cons rfl (fun K hK => ?_) AllReadyH.nil
        go_simp
        refine hK.out _ _ x1 (fun hHeld => ?_)
        clear hK K
        (try simp only [Act.put, List.getElem_toArray, List.getElem_cons_zero, List.getElem_cons_succ, List.setIfInBounds_toArray, List.set_cons_zero, List.set_cons_succ])
        refine wpAnyH_ready (rs := [15]) (by kernel_rfl) (by simp) ?_
        refine AllReadyH.cons rfl (fun K hK => ?_) AllReadyH.nil
        go_simp
        refine hK.out _ _ x1 (fun hHeld => ?_)
        clear hK K
        (try simp only [Act.put, List.getElem_toArray, List.getElem_cons_zero, List.getElem_cons_succ, List.setIfInBounds_toArray, List.set_cons_zero, List.set_cons_succ])
        refine tkH 16 hHeld ?_
        have hsp : r5 < l[r1].recs[r3].seq.length := by rw [HDL.out]; exact hr5'
        have hro := (HT6.out.row l[r1] (List.getElem_mem hr1') l[r1].recs[r3] (List.getElem_mem hr3')).2
        rw [HSA.out] at hro
        have y0 := hro.getc int_len hsp (j := 0) rfl
        simp only [Nat.mul_one, Nat.add_zero] at y0
        have hfr : ∀ j, (w6).frozen? ⟨sb, j, none⟩ = false := fun j => hro.frz j
        have hne : ¬ sb = g1 := fun e => (HT6.out.tab l[r1] (List.getElem_mem hr1')).neType hro (by decide) g1 (by rw [HA.out]; rfl) (by rw [e]; rfl)
        clear hro
        refine wpAnyH_ready (rs := [17]) (by kernel_rfl) (by simp) ?_
        refine AllReadyH.cons rfl (fun K hK => ?_) AllReadyH.nil
        go_simp
        refine hK.out _ _ ?_ (fun hHeld => ?_)
        · go_simp
        clear hK K
        (try simp only [Act.put, List.getElem_toArray, List.getElem_cons_zero, List.getElem_cons_succ, List.setIfInBounds_toArray, List.set_cons_zero, List.set_cons_succ])
        refine wpAnyH_done (by kernel_rfl) ?_ _
        clear hHeld x1 y0 hfr hz hS6
        go_wp2_with fail
        go_ret
        exact ⟨some ⟨q, 0, none⟩, n, _, ret_len (by rw [List.length_set, HLL.out]), seq_put (z := z) HO6.out HLL.out.symm HT6.out hr1' hr3' HSA.out (m := r5) hsp rfl, HSM.out _ _ _ _ _ _ _ (by have := HAL.out; omega) (by simp; have := HDL.out; omega), HK6.out.far (by simp; omega) (by simp; omega) _, only_setCell hG6 (.inr (by simp; omega)) _⟩)
    · go_wp2_with fail
      (with_reducible refine (tape_Next g b 2 _ (HK4.out.alloc _) (by omega) (by omega)).mono ?_)
      rintro e w5 ⟨r5, rfl, hr5, hk5, hg5⟩
      have hr5' : r5 < 2 := by rcases hr5 with h | h <;> omega
      have hS5 := Blk.grown (Blk.new w4 3 #[.int .i64 (-1), .int .i64 1048577]) hg5 (fun e => by injection e with e; omega)
      obtain ⟨z, hz⟩ : ∃ z : Int, w5.cell? ⟨w4.heap.size, r5, none⟩ = some (.int .i64 z) := by
        rw [hS5.cell]
        rcases (show r5 = 0 ∨ r5 = 1 by omega) with rfl | rfl
        all_goals exact ⟨_, rfl⟩
      have hg45 : w4.grownBy w5 (some g) := grown_trans (grown_start _ (by exact belA)) hg5
      have HO5 := Lib.hid (Owns.grown HO4.out hg45 (by omega))
      have HT5 := Lib.hid (HT4.out.grownG hg45 (by omega))
      have hG5 := grown_trans hG4 hg45
      have HK5 := Lib.hid hk5
      have hz45 := hg45.size
      have hoT5 := HT5.out.tab l[r1] (List.getElem_mem hr1')
      rw [HA.out] at hoT5
      have hfg5 : ∀ j, w5.frozen? ⟨g1, j, none⟩ = false := fun j => hoT5.frz j
      have hg15 : g1 < w5.heap.size := hoT5.blk_lt.2
      obtain ⟨d0, d1, d2⟩ := Rcd.cells3 (w := w5) (b := g1) (o := r3 * 3) (x := l[r1].recs[r3]) (fun j u hu => hoT5.getc rcd_len hr3' hu)
      rw [HAL.out, HRA.out] at d0
      rw [HDL.out, HSA.out] at d1
      clear hk5 hr5 hoT5 hfg c0 c1 c2
      clear hS5
      go_wp2_with fail
      go_ret
      exact ⟨some ⟨q, 0, none⟩, n, _, ret_len (by rw [List.length_set, HLL.out]), recs_store (r' := ⟨l[r1].recs[r3].A, l[r1].recs[r3].cap, l[r1].recs[r3].row, l[r1].recs[r3].SA, l[r1].recs[r3].scap, l[r1].recs[r3].seq, z⟩) HO5.out HLL.out.symm HT5.out hr1' hr3' HA.out (f := 2) (by omega) rfl rfl (row_behind HT5.out hr1' HA.out (HT5.out.row _ (List.getElem_mem hr1') _ (List.getElem_mem hr3'))).read, HSM.out _ _ _ _ _ _ _ (by have := HAL.out; omega) (by have := HDL.out; omega), HK5.out.far (by simp; omega) (by simp; omega) _, only_setCell hG5 (.inr (by simp; omega)) _⟩
    · have hro := HRO.out.1
      rw [HRA.out] at hro
      have hcap := own_cap hro
      rw [HAL.out] at hcap
      obtain ⟨cp, hcp⟩ : ∃ x, l[r1].recs[r3].cap = x := ⟨_, rfl⟩
      rw [hcp] at hcap c0
      have HCP := Lib.hid hcp
      have ha1 : 1 ≤ a := by omega
      have ha1i : (1 : Int) ≤ (a : Int) := by omega
      clear hro hcp
      by_cases hc1 : cp = 1
      · subst hc1
        have ha1 : a = 1 := by omega
        subst ha1
        go_wp2_with fail
        go_ret
        exact ⟨some ⟨q, 0, none⟩, n, _, ret_len (by rw [List.length_set, HLL.out]), recs_store (r' := ⟨some ⟨rb, 0, none⟩, 0, [], l[r1].recs[r3].SA, l[r1].recs[r3].scap, l[r1].recs[r3].seq, l[r1].recs[r3].day⟩) HO4.out HLL.out.symm HT4.out hr1' hr3' HA.out (f := 0) (by omega) rfl rfl ⟨SliceIs.nil, (row_behind HT4.out hr1' HA.out (HT4.out.row _ (List.getElem_mem hr1') _ (List.getElem_mem hr3'))).read.2⟩, HSM.out _ _ _ _ _ _ _ (Nat.zero_le _) (by have := HDL.out; omega), HK4.out.far (by simp; omega) (by simp; omega) _, only_setCell hG4 (.inr (by simp; omega)) _⟩
      · go_wp2_with fail
        go_ret
        have hcut := fun (u : Value) => (row_behind (o := r3 * 3) (u := u) HT4.out hr1' HA.out (HT4.out.row _ (List.getElem_mem hr1') _ (List.getElem_mem hr3'))).read.1
        rw [HRA.out] at hcut
        have hcut := fun (u : Value) => (hcut u).cut (c := cp) 1 (by rw [HAL.out]; omega)
        simp only [if_neg hc1] at hcut
        exact ⟨some ⟨q, 0, none⟩, n, _, ret_len (by rw [List.length_set, HLL.out]), recs_store (r' := ⟨some ⟨rb, 3, none⟩, cp - 1, l[r1].recs[r3].row.drop 1, l[r1].recs[r3].SA, l[r1].recs[r3].scap, l[r1].recs[r3].seq, l[r1].recs[r3].day⟩) HO4.out HLL.out.symm HT4.out hr1' hr3' HA.out (f := 0) (by omega) rfl (by simp [Rcd.cells, HAL.out]) ⟨by simpa using hcut _, (row_behind HT4.out hr1' HA.out (HT4.out.row _ (List.getElem_mem hr1') _ (List.getElem_mem hr3'))).read.2⟩, HSM.out _ _ _ _ _ _ _ (by have := HAL.out; rw [List.length_drop]; omega) (by have := HDL.out; omega), HK4.out.far (by simp; omega) (by simp; omega) _, only_setCell hG4 (.inr (by simp; omega)) _⟩
    · have hro := HRO.out.2
      rw [HSA.out, HDL.out] at hro
      have hrow := hro.row
      have HRW := Lib.hid hro
      clear hro
      go_wp2_with (at_builtin; go_must (refine wpList_append_list _ rfl (.tmp 141) (.tmp 142) 22 rfl 3 ii _ intCells 1 8 Tryz.underlying22 hii hzi1 hzi2 hzi3 rfl (by omega) int_len int_one w.heap.size (.slice (some ⟨sb, 0, none⟩) d l[r1].recs[r3].scap) l[r1].recs[r3].seq rfl (HRW.out.alloc _) _ _ _ [1] rfl rfl (Blk.one (enc := intCells) (x := 1) (Blk.new' rfl) (by simp)) (by rw [HDL.out]; simp; omega) (by rw [HDL.out]; simp [maxLen]; omega) (by simp; omega) ?_); intro v' w5 hown' hg' hat'; obtain ⟨A3, c3, rfl, _, _, _⟩ := hown'.slice int_len; have HOWN' := Lib.hid hown'; have hO5 := owns_past (HOT.out.alloc _) (HRW.out.alloc _) (by decide) hg'; have HG' := Lib.hid hg'; have d1 := hO5.getc rcd_len hr3' (j := 1) rfl; have hfg5 : ∀ j, w5.frozen? ⟨g1, j, none⟩ = false := fun j => hO5.frz j; clear hown' hO5 hg' hat' hfg c0 c1 c2)
      go_ret
      have hgw := HG'.out
      have hsa := seq_app (w := w4.alloc (.cells #[.int .i64 1] 3)) (j := r3) (o := r3 * 3 + 1) (HO4.out.alloc _) HLL.out.symm (HT4.out.belowG (by exact belA)) hr1' hr3' HA.out rfl (by rw [HSA.out, own_eq _ _ _ d l[r1].recs[r3].scap]; exact hgw) HOWN'.out
      rw [List.length_append, List.length_singleton] at hsa
      obtain ⟨ht, hgr⟩ := tape_past (p := ⟨g1, r3 * 3 + 1, none⟩) (v := .slice A3 (l[r1].recs[r3].seq.length + 1) c3) hgl hbl (HK4.out.alloc _) (grown_alloc hG4 _) hgw hrow hb1
      refine ⟨some ⟨q, 0, none⟩, n, _, ret_len (by rw [List.length_set, HLL.out]), ?_, HSM.out l[r1].recs[r3].row (l[r1].recs[r3].seq ++ [1]) l[r1].recs[r3].A A3 l[r1].recs[r3].cap c3 l[r1].recs[r3].day (by have := HAL.out; omega) (by rw [List.length_append, HDL.out]; simp; omega), ?_, ?_⟩
      · exact hsa
      · exact ht
      · exact hgr
    · have hrx := HOT.out
      have h0m : 0 < l[r1].recs.length := by rw [HM.out]; exact hmp
      obtain ⟨y0, y1, y2⟩ := Rcd.cells3 (w := w4) (b := g1) (o := 0 * 3) (x := l[r1].recs[0]) (fun j u hu => HOT.out.getc rcd_len h0m hu)
      simp only [Nat.zero_mul, Nat.zero_add] at y0 y1 y2
      have s0 := HO4.out.getE rtab_len HLL.out.symm hr1' (j := 0) rfl
      simp only [Nat.mul_one, Nat.add_zero] at s0
      rw [HA.out, HM.out] at s0
      obtain ⟨x0, hx0⟩ : ∃ x, l[r1].recs[0] = x := ⟨_, rfl⟩
      rw [hx0] at y0 y1 y2
      have HX0 := Lib.hid hx0
      have hq4 : q < w4.heap.size := HO4.out.lt q rfl
      have hrow := HOT.out.row
      have HOT2 : Hid (Owns w4 w.heap.size 148 Rcd.cells 3 (.slice (some ⟨g1, 0, none⟩) m l[r1].cap) l[r1].recs) := Lib.hid (by have h := HOT.out; rwa [HM.out] at h)
      have hmpi : (0 : Int) < (m : Int) := by omega
      clear hrx hx0 hfg c0 c1 c2
      go_upto_region 28 with (fail)
      refine wp_region_T (S := fun u => u.cell? ⟨q, r1, none⟩ = some (.slice (some ⟨g1, 0, none⟩) m l[r1].cap)) [15] (by kernel_rfl) s0 (fun hHeld => ?_)
      refine tkT 0 hHeld ?_
      refine tkT 1 hHeld ?_
      refine tkT 2 hHeld ?_
      refine tkT 3 hHeld ?_
      refine tkT 4 hHeld ?_
      refine tkT 5 hHeld ?_
      refine tkT 6 hHeld ?_
      refine tkT 7 hHeld ?_
      refine tkT 8 hHeld ?_
      refine tkT 9 hHeld ?_
      refine r1T 10 (fun K hK => ?_)
      go_simp
      refine hK.out _ _ _ s0 (fun hHeld => ?_)
      clear hK K
      (try simp only [Act.put, List.getElem_toArray, List.getElem_cons_zero, List.getElem_cons_succ, List.setIfInBounds_toArray, List.set_cons_zero, List.set_cons_succ])
      refine r1T 11 (fun K hK => ?_)
      go_simp
      refine hK.out _ _ _ s0 (fun hHeld => ?_)
      clear hK K
      (try simp only [Act.put, List.getElem_toArray, List.getElem_cons_zero, List.getElem_cons_succ, List.setIfInBounds_toArray, List.set_cons_zero, List.set_cons_succ])
      refine r1T 12 (fun K hK => ?_)
      go_simp
      refine hK.out _ _ _ ?_ (fun hHeld => ?_)
      · go_simp
      clear hK K
      (try simp only [Act.put, List.getElem_toArray, List.getElem_cons_zero, List.getElem_cons_succ, List.setIfInBounds_toArray, List.set_cons_zero, List.set_cons_succ])
      refine r1T 13 (fun K hK => ?_)
      refine step_append_list _ rfl (.tmp 153) (.tmp 160) 149 rfl 148 ir _ Rcd.cells 3 56 Tryz.underlying149 hir hzr1 hzr2 hzr3 rfl (by omega) rcd_len rcd_one w.heap.size (.slice (some ⟨g1, 0, none⟩) m l[r1].cap) l[r1].recs rfl ((HOT2.out.alloc _).drew) _ _ _ [x0] rfl rfl (Blk.one (enc := Rcd.cells) (x := x0) (Blk.drew (Blk.new' rfl)) (by simp)) (by rw [HM.out]; simp; omega) (by rw [HM.out]; simp [maxLen]; omega) (by simp; omega) ?_
      intro v' w5 hown' hg' hat'
      obtain ⟨A3, c3, rfl, _, _, _⟩ := hown'.slice rcd_len
      have HOWN' := Lib.hid hown'
      have hO5 := owns_past ((HO4.out.alloc _).drew) ((HOT2.out.alloc _).drew) (by decide) hg'
      have HG' := Lib.hid hg'
      have q5 := hO5.getE rtab_len HLL.out.symm hr1' (j := 0) rfl
      have hqf5 : ∀ j, w5.frozen? ⟨q, j, none⟩ = false := fun j => hO5.frzE HLL.out.symm j
      simp only [Nat.mul_one, Nat.add_zero] at q5
      rw [HA.out, HM.out] at q5
      refine hK.out _ _ _ q5 (fun hHeld => ?_)
      clear hK K hown' hO5 hg' hat' s0 y0 y1 y2
      (try simp only [Act.put, List.getElem_toArray, List.getElem_cons_zero, List.getElem_cons_succ, List.setIfInBounds_toArray, List.set_cons_zero, List.set_cons_succ])
      refine tkT 14 hHeld ?_
      refine rzT 15 (fun K hK => ?_)
      clear hHeld
      go_simp
      refine hK.out _ _ _ ?_
      clear hK K
      refine wpT_done (by kernel_rfl) ?_ _
      go_wp2_with fail
      go_ret
      have hgw := HG'.out
      have hap := app_store (w := (w4.alloc (.cells #[.slice x0.A x0.row.length x0.cap, .slice x0.SA x0.seq.length x0.scap, .int .i64 x0.day] 148)).drew) ((HO4.out.alloc _).drew) HLL.out.symm (HT4.out.belowG (by exact belA)) hr1' (by rw [HA.out, own_eq _ _ _ m l[r1].cap]; exact hgw) (A3 := A3) (c3 := c3) (new := l[r1].recs ++ [x0]) HOWN'.out (fun x hx => by
        have hx' : x ∈ l[r1].recs := by
          rcases List.mem_append.1 hx with h | h
          · exact h
          · rw [List.mem_singleton.1 h, ← HX0.out]; exact List.getElem_mem h0m
        have hx2 := HT4.out.row l[r1] (List.getElem_mem hr1') x hx'
        exact ⟨(hx2.1.alloc _).drew, (hx2.2.alloc _).drew⟩)
      obtain ⟨ht, hgr⟩ := tape_past (p := ⟨q, r1, none⟩) (v := .slice A3 (l[r1].recs ++ [x0]).length c3) hgl hbl ((HK4.out.alloc _).below (Below.refl _ _).drew) (grown_drew (grown_alloc hG4 _)) hgw hrow hq
      refine ⟨some ⟨q, 0, none⟩, n, l.set r1 ⟨A3, c3, l[r1].recs ++ [x0]⟩, ret_len (by rw [List.length_set, HLL.out]), ?_, HSL.out.sane.set (by rw [List.length_append, HM.out]; simp; omega) (fun r hr => ?_), ?_, ?_⟩
      · simpa using hap
      · have hx' : r ∈ l[r1].recs := by
          rcases List.mem_append.1 hr with h | h
          · exact h
          · rw [List.mem_singleton.1 h, ← HX0.out]; exact List.getElem_mem h0m
        exact ⟨HSL.out.sane.row l[r1] (List.getElem_mem hr1') r hx', HSL.out.sane.seq l[r1] (List.getElem_mem hr1') r hx'⟩
      · simpa using ht
      · simpa using hgr
    · go_wp2_with (at_builtin; go_must (refine wpList_append_list _ rfl (.tmp 165) (.tmp 166) 60 rfl 149 it _ RTab.cells 1 24 Tryz.underlying60 hit hzt1 hzt2 hzt3 rfl (by omega) rtab_len rtab_one w.heap.size (.slice (some ⟨q, 0, none⟩) n n) l rfl (HO4.out.alloc _) _ _ _ [zeroT] rfl rfl (Blk.one (enc := RTab.cells) (x := zeroT) (Blk.new' rfl) (by simp)) (by rw [HLL.out]; simp; omega) (by rw [HLL.out]; simp [maxLen]; omega) (by simp; omega) ?_); intro v' w5 hown' hg' hat'; obtain ⟨A3, c3, rfl, _, _, _⟩ := hown'.slice rtab_len; have HOWN' := Lib.hid hown'; have HG' := Lib.hid hg'; clear hown' hg' hat' hfg c0 c1 c2)
      go_ret
      have hrow : ∀ q', (Value.slice (some ⟨q, 0, none⟩) n n).ownBlock = some q' → w.heap.size ≤ q' := HO4.out.row
      exact ⟨A3, c3, l ++ [zeroT], ret_len (by rw [List.length_append, HLL.out]; rfl), out_app (w := w4.alloc _) (HO4.out.alloc _) (HT4.out.belowG (by exact belA)) HG'.out HOWN'.out, HSL.out.more, (HK4.out.alloc _).grownO HG'.out (fun e => by have := hrow g e.symm; omega) (fun e => by have := hrow b e.symm; omega), grown_newO (grown_alloc hG4 _) HG'.out hrow⟩
    · have hro := HRO.out.1
      go_wp2_with fail
      go_ret
      exact ⟨some ⟨q, 0, none⟩, n, _, ret_len (by rw [List.length_set, HLL.out]), recs_store (r' := ⟨none, 0, [], l[r1].recs[r3].SA, l[r1].recs[r3].scap, l[r1].recs[r3].seq, l[r1].recs[r3].day⟩) HO4.out HLL.out.symm HT4.out hr1' hr3' HA.out (f := 0) (by omega) rfl rfl ⟨SliceIs.nil, (row_behind HT4.out hr1' HA.out (HT4.out.row _ (List.getElem_mem hr1') _ (List.getElem_mem hr3'))).read.2⟩, HSM.out _ _ _ _ _ _ _ (Nat.zero_le _) (by have := HDL.out; omega), HK4.out.far (by simp; omega) (by simp; omega) _, only_setCell hG4 (.inr (by simp; omega)) _⟩
end Go.Proofs.YtlpgmdhnjckplaaGreat
