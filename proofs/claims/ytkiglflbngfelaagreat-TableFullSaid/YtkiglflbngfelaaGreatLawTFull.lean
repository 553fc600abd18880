/-
  The law TableFull, walked.
-/
import Derived.Test.YtkiglflbngfelaaGreatJ33
import Derived.Test.YtkiglflbngfelaaGreatJ35
import Derived.Test.YtkiglflbngfelaaGreatJ25
import Derived.Test.YtkiglflbngfelaaGreatJ2
import Derived.Test.YtkiglflbngfelaaGreatFullP
import Derived.Test.YtkiglflbngfelaaGreatTHist
set_option linter.unusedVariables false
set_option linter.unusedSimpArgs false
namespace Go.Proofs.YtkiglflbngfelaaGreat
open Go.RowKit Go

abbrev FullL (l : List Chg) : Prop := ∀ i (hi : i < l.length), ∃ A cp, l[i] = cF i A cp
theorem FullL.nil : FullL [] := fun i hi => by cases hi
theorem FullL.snoc {l : List Chg} {i : Nat} (h : FullL l) (hl : l.length = i) (A : Option Addr) (cp : Nat) : FullL (l ++ [cF i A cp]) := fun j hj => by
  rcases Nat.lt_or_ge j l.length with h1 | h1
  · obtain ⟨B, c, e⟩ := h j h1
    exact ⟨B, c, by rw [List.getElem_append_left h1]; exact e⟩
  · have h2 : j = i := by simp at hj; omega
    subst h2
    exact ⟨A, cp, by rw [List.getElem_append_right h1]; simp⟩
theorem FullL.good {q : Nat} {l : List Chg} (h : FullL l) (hn : l.length ≤ 65) {i : Nat} (hi : i < l.length) (h64 : i < 64) : HGood [tabPl q] l i hi := by
  have h1 := full_step (q := q) h hn hi
  refine ⟨h1.1, fun h0 => ?_, fun rt hr => by rw [h1.2 rt hr, if_pos h64]⟩
  obtain ⟨a, b⟩ := full_follows h hi h0
  unfold folB
  rw [Bool.and_eq_true, decide_eq_true_eq, decide_eq_true_eq]
  exact ⟨a, b⟩
theorem FullL.bad {q : Nat} {l : List Chg} (h : FullL l) (hn : l.length ≤ 65) (hi : 64 < l.length) : HBad [tabPl q] l 64 hi 8 := by
  have h1 := full_step (q := q) h hn hi
  refine ⟨by decide, .inr ⟨h1.1, .inr ⟨fun h0 => ?_, fun rt hr => by rw [h1.2 rt hr, if_neg (by omega)]⟩⟩⟩
  obtain ⟨a, b⟩ := full_follows h hi h0
  unfold folB
  rw [Bool.and_eq_true, decide_eq_true_eq, decide_eq_true_eq]
  exact ⟨a, b⟩
theorem full_hist (PA : Option Addr) (pq : Nat) (LA : Option Addr) (lc n : Nat) (l : List Chg) (w : World) (ht : TabsIn w w.heap.size PA [tabPl pq]) (hl : ChgsIn w w.heap.size LA l) (hn : l.length = n) (h : FullL l) (h65 : n ≤ 65) :
    Calls Tryz.prog 24 #[.agg #[.slice PA 1 1, .slice none 0 0, .slice none 0 0, .slice none 0 0, .slice none 0 0, .slice none 0 0, .slice none 0 0, .slice none 0 0], .slice LA n lc] w fun e w' => (∃ ra rb : Int, e = .returned (.tuple #[.int .i64 ra, .int .i64 rb]) ∧ (n ≤ 64 → ra = 0 ∧ rb = 0) ∧ (¬ n ≤ 64 → ra = 64 ∧ rb = 8)) ∧ Below w.heap.size w w' := by
  subst hn
  have hp : ∀ i, i ≤ l.length → POk [tabPl pq] (replayE [tabPl pq] (l.take i)) := fun i hi => (full_all (q := pq) h h65 i hi).pok
  by_cases h64 : l.length ≤ 64
  · refine (tab_History PA 1 1 [tabPl pq] LA lc l.length l w ht rfl (catP_sane _) (catP_ok _) hl rfl (by omega) (full_rows h) l.length 8 (Nat.le_refl _) hp (fun i hi hk => h.good h65 hi (by omega)) (fun h => by omega) (ra := 0) (rb := 0) (.inr ⟨rfl, rfl, rfl⟩)).mono ?_
    rintro e w' ⟨rfl, hb⟩
    exact ⟨⟨0, 0, rfl, fun _ => ⟨rfl, rfl⟩, fun h => absurd h64 h⟩, hb⟩
  · have h64' : 64 < l.length := by omega
    refine (tab_History PA 1 1 [tabPl pq] LA lc l.length l w ht rfl (catP_sane _) (catP_ok _) hl rfl (by omega) (full_rows h) 64 8 (by omega) (fun i hi => hp i (by omega)) (fun i hi hk => h.good h65 hi hk) (fun h1 => h.bad h65 h1) (ra := 64) (rb := 8) (.inl ⟨h64', rfl, rfl⟩)).mono ?_
    rintro e w' ⟨rfl, hb⟩
    exact ⟨⟨64, 8, rfl, fun h => absurd h h64, fun _ => ⟨rfl, rfl⟩⟩, hb⟩
theorem Owns.two {α : Type} {w : World} {g base k : Nat} {t : TypeId} {enc : α → List Value} {x y : α} (h : Blk w g t ([x, y].flatMap enc).toArray) (hb : base ≤ g) (hk : ∀ x, (enc x).length = k) : Owns w base t enc k (.slice (some ⟨g, 0, none⟩) 2 2) [x, y] :=
  ⟨by simp [hk]; omega, .inr ⟨g, 2, ([x, y].flatMap enc).toArray, rfl, hb, h, Nat.le_refl _, by decide, by simp [hk]; omega, by rw [List.take_of_length_le (by simp [hk]; omega)]⟩⟩
set_option maxRecDepth 100000 in
set_option maxHeartbeats 8000000 in
theorem full_walk (a0 : Int) (h0 : 0 ≤ a0) (h1 : a0 ≤ 255) (w : World) :
    Calls Tryz.prog 6 #[.int .u8 a0] w fun e w' => e = .returned (.bool true) ∧ Below w.heap.size w w' := by
  obtain ⟨ic, hic, hzc1, hzc2, hzc3⟩ := info_parts infoChg
  obtain ⟨d, hd, hd2⟩ : ∃ d : Nat, a0 % 3 = d ∧ d < 3 := ⟨(a0 % 3).toNat, by omega, by omega⟩
  go_enter Tryz.func6, Tryz.ntmps6
  go_upto_region 3 with (fail)
  go_loopw [3, 4] (fun vl vi wr => ∃ (i : Nat) (LA : Option Addr) (lc : Nat) (l : List Chg), i ≤ 63 + d ∧ vi = .int .i64 i ∧ vl = .slice LA l.length lc ∧ l.length = i ∧ OwnC wr w.heap.size LA lc l ∧ FullL l ∧ Below w.heap.size w wr) (fun _ vi _ => 63 + d - (intOf vi).toNat)
  case atStart => exact ⟨0, none, 0, [], Nat.zero_le _, rfl, rfl, rfl, ⟨Owns.nil, fun x hx => by simp at hx, fun x hx => by simp at hx⟩, FullL.nil, by exact belA⟩
  case round =>
    obtain ⟨i, LA, lc, l, hi, rfl, rfl, hln, hoc, hfl, hbr⟩ := hrel
    have HOC := Lib.hid hoc
    have HFL := Lib.hid hfl
    have HLN := Lib.hid hln
    have hwz := hbr.size
    clear hoc hfl
    by_cases hlt : i < 63 + d
    · have hl65 : l.length ≤ 65 := by omega
      clear hln
      have hm97 : i * 7 % 97 < 97 := Nat.mod_lt _ (by decide)
      have hw2 : IntKind.i64.wrap ((i : Int) * 7) = ((i * 7 : Nat) : Int) := by rw [show (i : Int) * 7 = ((i * 7 : Nat) : Int) by omega]; exact IntWalk.i64_in _ (by omega)
      go_wp2_with (first
        | (go_at_call 23; (refine (int_any (i * 7 % 97) _ (by omega)).mono ?_); rintro e w1 ⟨rfl, hb1⟩; have hx1 : Below wr.heap.size wr w1 := hb1.1; have hz1 : wr.heap.size ≤ w1.heap.size := hx1.size; have HOC1 := Lib.hid (HOC.out.below hx1))
        | (at_builtin; go_must (refine wpList_append_list _ rfl (.tmp 16) (.tmp 26) 36 rfl 53 ic _ Chg.cells 12 128 Tryz.underlying36 hic hzc1 hzc2 hzc3 rfl (by omega) chg_len chg_one w.heap.size (.slice LA l.length lc) l rfl ((HOC1.out.own.alloc _).alloc _) _ _ _ [cF i (some ⟨w1.heap.size, 0, none⟩) 2] rfl rfl (Blk.one (enc := Chg.cells) (x := cF i (some ⟨w1.heap.size, 0, none⟩) 2) (Blk.new' (by simp)) (by simp)) (by simp; omega) (by simp [maxLen]; omega) (by simp; omega) ?_); go_must (intro v2 w6 hown6 hg6 hat6; obtain ⟨LA6, lc6, hv6, _, _⟩ := hown6.form; subst hv6; have HROW1 : Hid (Owns (w1.alloc (.cells ([vK i, nulV].flatMap Val.cells).toArray 51 (0, 0))) w.heap.size 51 Val.cells 3 (.slice (some ⟨w1.heap.size, 0, none⟩) 2 2) [vK i, nulV]) := Lib.hid (Owns.two (Blk.new' rfl) (by omega) val_len); have HOC6 := Lib.hid (OwnC.app (x := cF i (some ⟨w1.heap.size, 0, none⟩) 2) (HOC1.out.below (by exact belA)) hg6 hown6 (HROW1.out.alloc _) (by simp [cF])); have hbel : Below w.heap.size w w6 := Below.grown (B := w.heap.size) (below_nextN (below_nextN hbr hx1 hwz) (by exact belA) (by omega)) hg6 (by simp; omega) HOC1.out.own.row)))
      go_roundw
      case rel => exact ⟨i + 1, LA6, lc6, l ++ [cF i (some ⟨w1.heap.size, 0, none⟩) 2], by omega, by go_num, by simp, by rw [List.length_append, HLN.out]; rfl, HOC6.out, HFL.out.snoc HLN.out _ _, hbel⟩
      case measure => simp [intOf]; omega
    · have HN : Hid (l.length = 63 + d) := Lib.hid (by omega)
      have h65 : l.length ≤ 65 := by omega
      have hlt' : decide (i < 63 + d) = false := by simpa using hlt
      have hli : decide ((i : Int) < 63 + (d : Int)) = false := by simp; omega
      clear hlt hi hln
      go_upto_region 7 with (first
        | (go_at_call 17; (with_reducible refine (law07_plain _).mono ?_); rintro e u1 ⟨⟨PA, pq, rfl, hp1⟩, hb1⟩; have HP1 := Lib.hid hp1; have hx1 := below_nextN hbr hb1 hwz; have HOC1 := Lib.hid (HOC.out.below hb1); clear hp1)
        | (go_at_call 11; (with_reducible refine (tab_Replay PA 1 1 [tabPl pq] LA lc l.length l _ HP1.out rfl (catP_sane _) (catP_ok _) HOC1.out.read rfl (by omega) (full_rows HFL.out) (fun i hi => (full_all HFL.out h65 i hi).pok)).mono ?_); rintro e u2 ⟨⟨xq, rt, rfl, hrl, hrt, hru, hpu⟩, hb2⟩))
      obtain ⟨t, rfl, htl⟩ := full_len HFL.out h65 hpu
      have HRT := Lib.hid hrt
      have HPU := Lib.hid hpu
      have HSR : Hid (SaneR [t]) := Lib.hid (full_sane HFL.out h65 hpu)
      have HOC2 := Lib.hid (HOC1.out.below hb2)
      have hx2 := below_nextN hx1 hb2 hx1.size
      clear hrt hpu hru hrl HOC1 HOC HP1
      go_upto_region 8 with (first
        | (go_at_call 17; (with_reducible refine (law07_plain _).mono ?_); rintro e u3 ⟨⟨PB, pr, rfl, hp3⟩, hb3⟩; have HP3 := Lib.hid hp3; have hx3 := below_nextN hx2 hb3 hx2.size; have HOC3 := Lib.hid (HOC2.out.below hb3); clear hp3)
        | (go_at_call 24; (with_reducible refine (full_hist PB pr LA lc l.length l _ HP3.out HOC3.out.read rfl HFL.out h65).mono ?_); rintro e u4 ⟨⟨ra, rb, rfl, hr1, hr2⟩, hb4⟩))
      have HR1 := Lib.hid hr1
      have HR2 := Lib.hid hr2
      have HOC4 := Lib.hid (HOC3.out.below hb4)
      have hx4 := below_nextN hx3 hb4 hx3.size
      have hy4 := below_nextN hb3 hb4 hb3.size
      have HRT4 := Lib.hid (HRT.out.next hy4)
      obtain ⟨b5, o5, he5, _, hc5⟩ := HRT4.out.1.get (i := 0) (by simp)
      injection he5 with he5
      injection he5 with he6 he7
      subst he6 he7
      have t0 := hc5 0 _ rfl
      simp only [List.getElem_cons_zero, Nat.zero_mul, Nat.add_zero] at t0
      clear hr1 hr2 HOC2 HOC3 HP3 HRT hc5
      have htl' : ((t.recs.length : Nat) : Int) = min ((l.length : Nat) : Int) 64 := by omega
      have hS8 : Hid (∀ (t2 : RTab) (x : Nat), [t2].map pureT = replayE [tabPl x] l → [t].map pureT = [t2].map pureT) := Lib.hid fun t2 x hx => by rw [HPU.out, hx]; exact full_one HFL.out h65 x
      go_upto_region 10 with (first
        | (go_at_call 17; (with_reducible refine (law07_plain _).mono ?_); rintro e u5 ⟨⟨PC, pc, rfl, hp5⟩, hb5⟩; have HP5 := Lib.hid hp5; have HOC5 := Lib.hid (HOC4.out.below hb5); have hx5 := below_nextN hx4 hb5 hx4.size; clear hp5)
        | (go_at_call 15; (with_reducible refine (ref07_Replay PC 1 1 [tabPl pc] LA lc l.length l _ HP5.out rfl (catP_sane _) (catP_ok _) HOC5.out.read rfl (by omega) (full_rows HFL.out)).mono ?_); rintro e u6 ⟨⟨R6, c6, t6, rfl, hrl6, hrt6, hru6, hsh6, hpu6⟩, hb6⟩; have HRT6 := Lib.hid hrt6; have HPU6 := Lib.hid hpu6; have HRL6 := Lib.hid hrl6; have hx6 := below_nextN hx5 hb6 hx5.size; clear hrt6 hru6 hsh6 hpu6 hrl6)
        | (go_at_call 22; (with_reducible refine (ref07_Same (some ⟨xq, 0, none⟩) R6 1 c6 1 1 [t] t6 _ (HRT4.out.next (below_nextN hb5 hb6 hb5.size)) HRT6.out rfl HRL6.out HSR.out (by rw [HPU.out, HPU6.out]; exact full_one HFL.out h65 pc)).mono ?_); rintro e u7 ⟨rfl, hb7⟩; have hx7 := below_nextN hx6 hb7 hx6.size))
      have hy7 := below_nextN hb5 (below_nextN hb6 hb7 hb6.size) hb5.size
      have HRT7 := Lib.hid (HRT4.out.next hy7)
      clear t0 htl htl' HRT4 HRT6 HOC4 HOC5 HP5
      by_cases h64 : l.length ≤ 64
      · obtain ⟨rfl, rfl⟩ := HR1.out h64
        have h64' : decide (64 < l.length) = false := by simpa using h64
        go_wp2_with (first
          | (go_at_call 17; (with_reducible refine (law07_plain _).mono ?_); rintro e u8 ⟨⟨PD, pd, rfl, hp8⟩, hb8⟩; have HP8 := Lib.hid hp8; have hx8 := below_nextN hx7 hb8 hx7.size; clear hp8)
          | (go_at_call 23; (refine (int_any 200 _ (by omega)).mono ?_); rintro e u9 ⟨rfl, hb9'⟩; have hb9 : Below u8.heap.size u8 u9 := hb9'.1; have hx9 := below_nextN hx8 hb9 hx8.size)
          | (go_at_call 16; go_must (refine (law07_applies PD 1 1 [tabPl pd] (some ⟨xq, 0, none⟩) 1 1 [t] 1 500 0 0 (some ⟨u9.heap.size, 0, none⟩) 2 [⟨1, 200, ⟨#[]⟩⟩, nulV] nulV 0 nulV _ (HP8.out.next (below_nextN hb9 (by exact belA) hb9.size)) rfl (catP_sane _) (catP_ok _) (HRT7.out.next (below_nextN hb8 (below_nextN hb9 (by exact belA) hb9.size) hb8.size)) rfl HSR.out (Blk.all val_len (Blk.new' rfl) (by simp)) (by decide)).mono ?_); rintro e u10 ⟨rfl, hb10⟩; have hx10 := below_nextN (below_nextN hx9 (by exact belA) hx9.size) hb10 (below_nextN hx9 (by exact belA) hx9.size).size)
          | (go_at_call 13; (with_reducible refine (law07_awake _).mono ?_); rintro e u11 ⟨rfl, hb11⟩; have hx11 := below_nextN hx10 hb11 hx10.size))
        go_ret
        exact ⟨rfl, hx11⟩
      · obtain ⟨rfl, rfl⟩ := HR2.out h64
        have h64' : decide (64 < l.length) = true := by simp; omega
        go_wp2_with (go_at_call 13; (with_reducible refine (law07_awake _).mono ?_); rintro e u11 ⟨rfl, hb11⟩; have hx11 := below_nextN hx7 hb11 hx7.size)
        go_ret
        exact ⟨rfl, hx11⟩
end Go.Proofs.YtkiglflbngfelaaGreat
