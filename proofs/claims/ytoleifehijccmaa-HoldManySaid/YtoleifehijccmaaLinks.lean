/-
  The laws' generator of links: the lists that it makes are valid.
-/
import Derived.Test.YtoleifehijccmaaIdent
import Derived.Test.YtoleifehijccmaaMany
namespace Go.Proofs.Ytoleifehijccmaa
set_option linter.unusedVariables false
open Go.RowKit

theorem Owns.grown {α : Type} {w w' : World} {base : Nat} {e : TypeId} {enc : α → List Value} {k : Nat} {v : Value} {l : List α} (h : Owns w base e enc k v l) {r : Nat} (hg : w.grownBy w' (some r)) (hr : r < base) : Owns w' base e enc k v l := by
  refine ⟨h.1, ?_⟩
  rcases h.2 with h1 | ⟨g, cap, cur, rfl, hbs, hgg, hrest⟩
  · exact .inl h1
  · refine .inr ⟨g, cap, cur, rfl, hbs, ?_, hrest⟩
    have hlt : g < w.heap.size := by
      rcases Nat.lt_or_ge g w.heap.size with hlt | hge
      · exact hlt
      · rw [Array.getElem?_eq_none hge] at hgg; cases hgg
    rw [hg.block g hlt (fun e => by injection e with e; omega)]
    exact hgg
theorem valid_name {x : Ident} (h : validId x = true) : x.ns.size ≤ 16 := by
  unfold validId nameB at h
  simp only [Bool.and_eq_true, decide_eq_true_eq] at h
  exact h.1.1.2
theorem valid_sane {l : List Link} (h : validLinks l = true) : Sane l := fun x hx => by
  have h1 := validLinks_mem h x hx
  have h2 := valid_name h1.2.2.1
  have h3 := valid_name h1.2.2.2.1
  omega
theorem Link.blk {w : World} {g : Nat} {y : Link} (h : Blk w g 29 y.cells.toArray) : (w.cell? ⟨g, 0, none⟩ = some (.string y.a.ns) ∧ w.cell? ⟨g, 1, none⟩ = some (.int .i64 y.a.val.kind) ∧ w.cell? ⟨g, 2, none⟩ = some (.int .i64 y.a.val.num) ∧ w.cell? ⟨g, 3, none⟩ = some (.string y.a.val.text)) ∧
    (w.cell? ⟨g, 4, none⟩ = some (.string y.b.ns) ∧ w.cell? ⟨g, 5, none⟩ = some (.int .i64 y.b.val.kind) ∧ w.cell? ⟨g, 6, none⟩ = some (.int .i64 y.b.val.num) ∧ w.cell? ⟨g, 7, none⟩ = some (.string y.b.val.text)) ∧
    w.cell? ⟨g, 8, none⟩ = some (.int .i64 y.seq) ∧ w.cell? ⟨g, 9, none⟩ = some (.bool y.rev) :=
  ⟨⟨h.cell 0, h.cell 1, h.cell 2, h.cell 3⟩, ⟨h.cell 4, h.cell 5, h.cell 6, h.cell 7⟩, h.cell 8, h.cell 9⟩
/-- What the generator of links knows: s is the last position that was given out. -/
structure GenLinks (l : List Link) (s : Nat) : Prop where
  valid : validFrom 0 l = true
  last : lastOf 0 l ≤ s
theorem GenLinks.add {l : List Link} {s : Nat} (h : GenLinks l s) {y : Link} (ha : validId y.a = true) (hb : validId y.b = true) (hne : y.a ≠ y.b) {s' : Nat} (hs : y.seq = s') (hss : s < s') (hs2 : s' ≤ 1000000) : GenLinks (l ++ [y]) s' := by
  constructor
  · rw [validFrom_snoc, h.valid, linkOk, ha, hb]
    have := h.last
    have h1 : lastOf 0 l < y.seq := by omega
    have h2 : y.seq ≤ 1073741824 := by omega
    simp [h1, h2, hne]
  · rw [lastOf_snoc, hs]
    exact Int.le_refl _
theorem GenLinks.mono {l : List Link} {s s' : Nat} (h : GenLinks l s) (hs : s ≤ s') : GenLinks l s' := ⟨h.valid, by have := h.last; omega⟩
theorem GenLinks.links {l : List Link} {s : Nat} (h : GenLinks l s) (hl : l.length ≤ 64) : validLinks l = true := by
  unfold validLinks
  rw [h.valid]
  simpa using hl

theorem grown_newO {a b c : World} {g : Nat} {row : Option Nat} (h : a.grownBy b (some g)) (k : b.grownBy c row) (hr : ∀ q, row = some q → a.heap.size ≤ q) : a.grownBy c (some g) :=
  ⟨k.os.trans h.os, k.tape.trans h.tape, k.output.trans h.output, Nat.le_trans h.size k.size, fun i hi hne => (k.block i (Nat.lt_of_lt_of_le hi h.size) (fun e => by have := hr i e.symm; omega)).trans (h.block i hi hne)⟩
theorem IsTape.grownO {w w' : World} {g b : Nat} {row : Option Nat} (h : IsTape w g b) (hb : w.grownBy w' row) (hg : some g ≠ row) (hr : some b ≠ row) : IsTape w' g b := by
  obtain ⟨n, c, a, zs, hB, h1, h2, h3, h4⟩ := h.is
  exact ⟨h.ne, Nat.lt_of_lt_of_le h.lt hb.size, n, c, a, zs, hB.grown hb hg, h1, h2, h3, fun i hi => (World.cell?_of_block (hb.block b h.lt hr)).trans (h4 i hi)⟩

theorem Blk.eq {w : World} {g : Nat} {t : TypeId} {cs cs' : Array Value} (h : Blk w g t cs) (e : cs = cs') : Blk w g t cs' := e ▸ h
theorem abs_world {P : World → Prop} {w : World} (R : World → Prop) (hR : R w) (h : ∀ u, R u → P u) : P w := h w hR
set_option maxRecDepth 100000 in
set_option maxHeartbeats 4000000 in
theorem tape_Links (g b n : Nat) (w : World) (hk : IsTape w g b) (hn : n ≤ 60) :
    Calls Try.prog 16 #[.pointer (some ⟨g, 0, none⟩), .int .i64 n] w fun e w' =>
      ∃ v l s, e = .returned v ∧ Owns w' w.heap.size 29 Link.cells 10 v l ∧ GenLinks l s ∧ s ≤ 4 * n ∧ l.length ≤ n ∧ IsTape w' g b ∧ w.grownBy w' (some g) := by
  have hg : Try.prog.eqGuardType Try.prog.depth 27 = false := by kernel_rfl
  obtain ⟨i0, hi0, hz0, hz1, hz2⟩ := info_parts infoLink
  have hgl := hk.ltg
  have hbl := hk.lt
  have HK := Lib.hid hk
  clear hk
  go_enter Try.func16, Try.ntmps16
  go_wp2_with fail
  refine (tape_Next g b ((n : Int) + 1) _ HK.out (by omega) (by omega)).mono ?_
  rintro e w0 ⟨r0, rfl, hr0, hk0, hg0⟩
  have hr0' : r0 ≤ n := by rcases hr0 with h | h <;> omega
  have HK0 := Lib.hid hk0
  clear hk0
  go_wp2_with fail
  go_loopw [5, 6, 7] (fun vo vs vi wr => ∃ (m s : Nat) (l : List Link), m ≤ n ∧ vi = .int .i64 m ∧ vs = .int .i64 s ∧ Owns wr w.heap.size 29 Link.cells 10 vo l ∧ GenLinks l s ∧ s + 4 * m ≤ 4 * n ∧ l.length + m ≤ n ∧ IsTape wr g b ∧ w.grownBy wr (some g)) (fun _ _ vi _ => (intOf vi).toNat)
  case atStart => exact ⟨r0, 0, [], hr0', rfl, rfl, Owns.nil, ⟨rfl, by simp [lastOf]⟩, by omega, by simpa using hr0', HK0.out, hg0⟩
  case round =>
    obtain ⟨m, s, l, hm, rfl, rfl, hown, hgen, hsm, hlm, hkr, hgr⟩ := hrel
    have HGL := Lib.hid hgen
    have HKR := Lib.hid hkr
    have hzr := hgr.size
    by_cases hm0 : 0 < m
    · have hm0' : (0 : Int) < (m : Int) := by omega
      obtain ⟨A5, c5, rfl, hc5, hsl, hA5⟩ := hown.slice link_len
      have HOR := Lib.hid hown
      have HSL := Lib.hid hsl
      have hrow := hown.row
      clear hown hgen hkr hsl
      go_wp2_with fail
      refine (tape_Next g b 4 _ HKR.out (by omega) (by omega)).mono ?_
      rintro e w1 ⟨r1, rfl, hr1, hk1, hg1⟩
      have hr1' : r1 < 4 := by rcases hr1 with h | h <;> omega
      have HK1 := Lib.hid hk1
      clear hk1
      go_wp2_with fail
      refine (tape_Identifier g b _ HK1.out).mono ?_
      rintro e w2 ⟨x1, rfl, hv1, hs1, hk2, hg2⟩
      have HK2 := Lib.hid hk2
      clear hk2
      go_wp2_with fail
      refine (tape_Identifier g b _ HK2.out).mono ?_
      rintro e w3 ⟨x2, rfl, hv2, hs2, hk3, hg3⟩
      have HK3 := Lib.hid hk3
      have hg03 : w.grownBy w3 (some g) := grown_trans (grown_trans (grown_trans hgr hg1) hg2) hg3
      have HO3 : Hid (Owns w3 w.heap.size 29 Link.cells 10 (.slice A5 l.length c5) l) := ((HOR.out.grown hg1 hgl).grown hg2 hgl).grown hg3 hgl
      have hz3 := hg03.size
      clear hk3
      have HVA := Lib.hid hv1
      have HVB := Lib.hid hv2
      clear hv1 hv2
      by_cases hl0 : l.length = 0
      · have hl0' : decide ((0 : Int) < (l.length : Int)) = false := by simp [hl0]
        have hl0n : decide (0 < l.length) = false := by simp [hl0]
        have HL0 := Lib.hid hl0
        clear hl0
        have HOW : Hid (Owns (w3.alloc (.cells (Link.cells ⟨x1, x2, (s : Int) + (1 + (r1 : Int)), false⟩).toArray 29)) w.heap.size 29 Link.cells 10 (.slice A5 l.length c5) l) := HO3.out.alloc _
        have HKW : Hid (IsTape (w3.alloc (.cells (Link.cells ⟨x1, x2, (s : Int) + (1 + (r1 : Int)), false⟩).toArray 29)) g b) := HK3.out.alloc _
        have HGW : Hid (w.grownBy (w3.alloc (.cells (Link.cells ⟨x1, x2, (s : Int) + (1 + (r1 : Int)), false⟩).toArray 29)) (some g)) := grown_alloc hg03 _
        cases hab : decide (x1 = x2)
        · have heq := eqlId_of hab
          have hne : x1 ≠ x2 := by simpa using hab
          have HNE := Lib.hid hne
          clear hne
          clear hab
          go_wp2_with (at_builtin; go_must (refine wpList_append_list _ rfl (.tmp 51) (.tmp 53) 22 rfl 29 i0 _ Link.cells 10 112 Try.underlying22 hi0 hz0 hz1 hz2 rfl (by omega) link_len link_one w.heap.size (.slice A5 l.length c5) l rfl (HOW.out.alloc _) _ _ _ [(⟨x1, x2, (s : Int) + (1 + (r1 : Int)), false⟩ : Link)] rfl rfl (Blk.one (enc := Link.cells) (x := (⟨x1, x2, (s : Int) + (1 + (r1 : Int)), false⟩ : Link)) (Blk.new' (by simp)) (by simp)) (by simp; omega) (by simp [maxLen]; omega) (by have := HGW.out.size; simp at this ⊢; omega) ?_); intro v' w6 hown' hg' hat'; have HOWN' := Lib.hid hown'; clear hown'; have HK6 : Hid (IsTape w6 g b) := (HKW.out.alloc _).grownO hg' (fun e => by have := hrow _ e.symm; omega) (fun e => by have := hrow _ e.symm; omega); have HG6 : Hid (w.grownBy w6 (some g)) := grown_newO (grown_alloc HGW.out _) hg' hrow)
          go_roundw
          case rel => exact ⟨m - 1, s + (1 + r1), l ++ [(⟨x1, x2, (s : Int) + (1 + (r1 : Int)), false⟩ : Link)], by omega, by go_num, by go_num, HOWN'.out, HGL.out.add (y := (⟨x1, x2, (s : Int) + (1 + (r1 : Int)), false⟩ : Link)) HVA.out HVB.out HNE.out (show (s : Int) + (1 + (r1 : Int)) = ((s + (1 + r1) : Nat) : Int) by omega) (by omega) (by omega), by omega, by simp; omega, HK6.out, HG6.out⟩
          case measure => simp [intOf]; omega
        · have heq := eqlId_of hab
          clear hab
          go_wp2
          go_roundw
          case rel => exact ⟨m - 1, s + (1 + r1), l, by omega, by go_num, by go_num, HOW.out, HGL.out.mono (by omega), by omega, by omega, HKW.out, HGW.out⟩
          case measure => simp [intOf]; omega
      · have hl1 : (0 : Int) < (l.length : Int) := by omega
        have hl1n : 0 < l.length := by omega
        go_wp2_with fail
        refine (tape_Next g b 4 _ (HK3.out.alloc _) (by omega) (by omega)).mono ?_
        rintro e w4 ⟨r2, rfl, hr2, hk4, hg4⟩
        have hX4 : Blk w4 w3.heap.size 29 (Link.cells ⟨x1, x2, (s : Int) + (1 + (r1 : Int)), false⟩).toArray := Blk.grown (Blk.new _ _ _) hg4 (fun e => by injection e with e; omega)
        have hg04 : w.grownBy w4 (some g) := grown_trans (grown_alloc hg03 _) hg4
        have HOW : Hid (Owns w4 w.heap.size 29 Link.cells 10 (.slice A5 l.length c5) l) := (HO3.out.alloc _).grown hg4 hgl
        have HKW := Lib.hid hk4
        have hk4c := Lib.hid hk4
        have HGW := Lib.hid hg04
        have hz4 := hX4.lt
        clear hk4
        by_cases hr20 : r2 = 0
        · subst hr20
          clear HKW HGW
          go_wp2_with fail
          refine (tape_Next g b l.length _ hk4c.out (by omega) (by omega)).mono ?_
          rintro e w5 ⟨r3, rfl, hr3, hk5, hg5⟩
          have hr3' : r3 < l.length := by rcases hr3 with h | h <;> omega
          have hX5 : Blk w5 w3.heap.size 29 (Link.cells ⟨x1, x2, (s : Int) + (1 + (r1 : Int)), false⟩).toArray := Blk.grown hX4 hg5 (fun e => by injection e with e; omega)
          obtain ⟨⟨a0, a1, a2, a3⟩, ⟨b0, b1, b2, b3⟩, s8, r9⟩ := Link.blk hX5
          have f0 := hX5.frozen 0
          have f1 := hX5.frozen 1
          have f2 := hX5.frozen 2
          have f3 := hX5.frozen 3
          have f4 := hX5.frozen 4
          have f5 := hX5.frozen 5
          have f6 := hX5.frozen 6
          have f7 := hX5.frozen 7
          have f8 := hX5.frozen 8
          have f9 := hX5.frozen 9
          have HX5 := Lib.hid hX5
          have hsl5 : SliceIs w5 w5.heap.size Link.cells 10 A5 l := by
            have hne : ∀ a, A5 = some a → some a.block ≠ some g := fun a ha e => by injection e with e; have := (hA5 a ha).1; omega
            exact ((((HSL.out.grown hg1 hne).grown hg2 hne).grown hg3 hne).next ((Below.refl _ _).alloc (Nat.le_refl _) _)).grown hg4 hne |>.grown hg5 hne
          have hlv := validFrom_mem HGL.out.valid l[r3] (List.getElem_mem hr3')
          have HOW5 : Hid (Owns w5 w.heap.size 29 Link.cells 10 (.slice A5 l.length c5) l) := HOW.out.grown hg5 hgl
          have hfar : ∀ q, (Value.slice A5 l.length c5).ownBlock = some q → q ≠ w3.heap.size := fun q e => by have := HO3.out.lt q e; omega
          clear HOW HVA HVB
          have HOW := HOW5
          have HKW := Lib.hid hk5
          have HGW := Lib.hid (grown_trans hg04 hg5)
          have HVA := Lib.hid hlv.2.2.1
          have HVB := Lib.hid hlv.2.2.2.1
          have HNE := Lib.hid hlv.2.2.2.2
          have hfg : g ≠ w3.heap.size := by omega
          have hfb : b ≠ w3.heap.size := by omega
          have hfx : w.heap.size ≤ w3.heap.size := hz3
          have heq := eqlId_of (decide_eq_false hlv.2.2.2.2)
          obtain ⟨b5, o5, rfl, hb5, hcl⟩ := hsl5.get hr3'
          obtain ⟨⟨p0, p1, p2, p3⟩, ⟨q0, q1, q2, q3⟩, t8, t9⟩ := Link.cells10 hcl
          clear hcl hsl5 hlv hX4 hX5 hk5 HOW5
          have HEQ := Lib.hid heq
          clear heq
          have HFAR := Lib.hid hfar
          have HROW := Lib.hid hrow
          have HFX := Lib.hid (And.intro hfg (And.intro hfb hfx))
          clear hfar hA5 hrow hfg hfb hfx hgr hg1 hg2 hg3 hg4 hg5 hg03 hg04
          go_upto_region 10 with (fail)
          refine abs_world (P := fun u => Code.wp _ _ _ _ u) (R := fun u => Blk u w3.heap.size 29 (Link.cells l[r3]).toArray ∧ Owns u w.heap.size 29 Link.cells 10 (.slice (some ⟨b5, o5, none⟩) l.length c5) l ∧ IsTape u g b ∧ w.grownBy u (some g)) ⟨?_, ?_, ?_, ?_⟩ ?_
          · with_reducible refine Blk.eq ((((((((((HX5.out.set_ 0 _).set_ 1 _).set_ 2 _).set_ 3 _).set_ 4 _).set_ 5 _).set_ 6 _).set_ 7 _).set_ 8 _).set_ 9 _) ?_
            simp [Link.cells]
          · repeat (first | with_reducible exact HOW.out | with_reducible refine Owns.far ?_ HFAR.out _)
          · repeat (first | with_reducible exact HKW.out | with_reducible refine IsTape.far ?_ HFX.out.1 HFX.out.2.1 _)
          · repeat (first | with_reducible exact HGW.out | with_reducible refine only_setCell ?_ (.inr HFX.out.2.2) _)
          clear f0 f1 f2 f3 f4 f5 f6 f7 f8 f9 a0 a1 a2 a3 b0 b1 b2 b3 s8 r9 p0 p1 p2 p3 q0 q1 q2 q3 t8 t9 HOW HKW HGW HX5
          rintro U ⟨hXU, hOU, hKU, hGU⟩
          have s8 := hXU.cell 8
          have s9 := hXU.cell 9
          simp only [Link.cells, List.getElem?_toArray, List.getElem?_cons_zero, List.getElem?_cons_succ] at s8 s9
          have f8 := hXU.frozen 8
          have f9 := hXU.frozen 9
          have HXU := Lib.hid hXU
          have HOU := Lib.hid hOU
          have HKU := Lib.hid hKU
          have HGU := Lib.hid hGU
          clear hXU hOU hKU hGU
          go_upto_region 11 with (fail)
          refine abs_world (P := fun u => Code.wp _ _ _ _ u) (R := fun u => Blk u w3.heap.size 29 (Link.cells ⟨l[r3].a, l[r3].b, (s : Int) + (1 + (r1 : Int)), true⟩).toArray ∧ Owns u w.heap.size 29 Link.cells 10 (.slice (some ⟨b5, o5, none⟩) l.length c5) l ∧ IsTape u g b ∧ w.grownBy u (some g)) ⟨?_, ?_, ?_, ?_⟩ ?_
          · with_reducible refine Blk.eq ((HXU.out.set_ 8 _).set_ 9 _) ?_
            simp [Link.cells]
          · with_reducible exact (HOU.out.far HFAR.out _).far HFAR.out _
          · with_reducible exact (HKU.out.far HFX.out.1 HFX.out.2.1 _).far HFX.out.1 HFX.out.2.1 _
          · with_reducible exact only_setCell (only_setCell HGU.out (.inr HFX.out.2.2) _) (.inr HFX.out.2.2) _
          clear s8 s9 f8 f9 HOU HKU HGU HXU
          rintro V ⟨hXU, hOU, hKU, hGU⟩
          obtain ⟨⟨a0, a1, a2, a3⟩, ⟨b0, b1, b2, b3⟩, s8, r9⟩ := Link.blk hXU
          have hzU := hXU.lt
          have HOW := Lib.hid hOU
          have HKW := Lib.hid hKU
          have HGW := Lib.hid hGU
          have heq := HEQ.out
          have hrow := HROW.out
          clear hXU hOU hKU hGU HEQ HROW
          go_wp2_with (at_builtin; go_must (refine wpList_append_list _ rfl (.tmp 51) (.tmp 53) 22 rfl 29 i0 _ Link.cells 10 112 Try.underlying22 hi0 hz0 hz1 hz2 rfl (by omega) link_len link_one w.heap.size (.slice (some ⟨b5, o5, none⟩) l.length c5) l rfl (HOW.out.alloc _) _ _ _ [(⟨l[r3].a, l[r3].b, (s : Int) + (1 + (r1 : Int)), true⟩ : Link)] rfl rfl (Blk.one (enc := Link.cells) (x := (⟨l[r3].a, l[r3].b, (s : Int) + (1 + (r1 : Int)), true⟩ : Link)) (Blk.new' (by simp)) (by simp)) (by simp; omega) (by simp [maxLen]; omega) (by have := HGW.out.size; simp at this ⊢; omega) ?_); intro v' w6 hown' hg' hat'; have HOWN' := Lib.hid hown'; clear hown'; have HK6 : Hid (IsTape w6 g b) := (HKW.out.alloc _).grownO hg' (fun e => by have := hrow _ e.symm; omega) (fun e => by have := hrow _ e.symm; omega); have HG6 : Hid (w.grownBy w6 (some g)) := grown_newO (grown_alloc HGW.out _) hg' hrow)
          go_roundw
          case rel => exact ⟨m - 1, s + (1 + r1), l ++ [(⟨l[r3].a, l[r3].b, (s : Int) + (1 + (r1 : Int)), true⟩ : Link)], by omega, by go_num, by go_num, HOWN'.out, HGL.out.add (y := (⟨l[r3].a, l[r3].b, (s : Int) + (1 + (r1 : Int)), true⟩ : Link)) HVA.out HVB.out HNE.out (show (s : Int) + (1 + (r1 : Int)) = ((s + (1 + r1) : Nat) : Int) by omega) (by omega) (by omega), by omega, by simp; omega, HK6.out, HG6.out⟩
          case measure => simp [intOf]; omega
        · have hr20' : ((r2 : Int) == 0) = false := by simp; omega
          obtain ⟨⟨a0, a1, a2, a3⟩, ⟨b0, b1, b2, b3⟩, s8, r9⟩ := Link.blk hX4
          clear hX4
          cases hab : decide (x1 = x2)
          · have heq := eqlId_of hab
            have hne : x1 ≠ x2 := by simpa using hab
            have HNE := Lib.hid hne
            clear hne hab
            go_wp2_with (at_builtin; go_must (refine wpList_append_list _ rfl (.tmp 51) (.tmp 53) 22 rfl 29 i0 _ Link.cells 10 112 Try.underlying22 hi0 hz0 hz1 hz2 rfl (by omega) link_len link_one w.heap.size (.slice A5 l.length c5) l rfl (HOW.out.alloc _) _ _ _ [(⟨x1, x2, (s : Int) + (1 + (r1 : Int)), false⟩ : Link)] rfl rfl (Blk.one (enc := Link.cells) (x := (⟨x1, x2, (s : Int) + (1 + (r1 : Int)), false⟩ : Link)) (Blk.new' (by simp)) (by simp)) (by simp; omega) (by simp [maxLen]; omega) (by have := HGW.out.size; simp at this ⊢; omega) ?_); intro v' w6 hown' hg' hat'; have HOWN' := Lib.hid hown'; clear hown'; have HK6 : Hid (IsTape w6 g b) := (HKW.out.alloc _).grownO hg' (fun e => by have := hrow _ e.symm; omega) (fun e => by have := hrow _ e.symm; omega); have HG6 : Hid (w.grownBy w6 (some g)) := grown_newO (grown_alloc HGW.out _) hg' hrow)
            go_roundw
            case rel => exact ⟨m - 1, s + (1 + r1), l ++ [(⟨x1, x2, (s : Int) + (1 + (r1 : Int)), false⟩ : Link)], by omega, by go_num, by go_num, HOWN'.out, HGL.out.add (y := (⟨x1, x2, (s : Int) + (1 + (r1 : Int)), false⟩ : Link)) HVA.out HVB.out HNE.out (show (s : Int) + (1 + (r1 : Int)) = ((s + (1 + r1) : Nat) : Int) by omega) (by omega) (by omega), by omega, by simp; omega, HK6.out, HG6.out⟩
            case measure => simp [intOf]; omega
          · have heq := eqlId_of hab
            clear hab
            go_wp2
            go_roundw
            case rel => exact ⟨m - 1, s + (1 + r1), l, by omega, by go_num, by go_num, HOW.out, HGL.out.mono (by omega), by omega, by omega, HKW.out, HGW.out⟩
            case measure => simp [intOf]; omega
    · obtain rfl : m = 0 := by omega
      go_wp2_with fail
      go_ret
      exact ⟨_, l, s, rfl, hown, hgen, by omega, by omega, hkr, hgr⟩
end Go.Proofs.Ytoleifehijccmaa
