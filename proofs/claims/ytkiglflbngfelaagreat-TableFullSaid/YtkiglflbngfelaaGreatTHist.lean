/-
  The program's tables: History.
-/
import Derived.Test.YtkiglflbngfelaaGreatJ32
import Derived.Test.YtkiglflbngfelaaGreatJ31
set_option linter.unusedVariables false
set_option linter.unusedSimpArgs false
namespace Go.Proofs.YtkiglflbngfelaaGreat
open Go.RowKit Go

def folB (x y : Chg) : Bool := decide (x.seq < y.seq) && decide (x.day ≤ y.day)
/-- The change at a place of a history has no error. -/
def HGood (ts : List Tab) (l : List Chg) (i : Nat) (h : i < l.length) : Prop := formE ts l[i] = 0 ∧ (∀ h0 : 0 < i, folB (l[i - 1]'(by omega)) l[i] = true) ∧ ∀ rt : List RTab, rt.map pureT = replayE ts (l.take i) → stateE ts rt l[i] = 0
/-- Its first error is z. -/
def HBad (ts : List Tab) (l : List Chg) (i : Nat) (h : i < l.length) (z : Int) : Prop := z ≠ 0 ∧ (formE ts l[i] = z ∨ (formE ts l[i] = 0 ∧ ((∃ h0 : 0 < i, folB (l[i - 1]'(by omega)) l[i] = false ∧ z = 12) ∨ ((∀ h0 : 0 < i, folB (l[i - 1]'(by omega)) l[i] = true) ∧ ∀ rt : List RTab, rt.map pureT = replayE ts (l.take i) → stateE ts rt l[i] = z))))
/-- What a change that fits finds. -/
theorem state_perf {ts : List Tab} {rt : List RTab} {x : Chg} {k : Nat} (hok : RTabsOk ts rt) (hf : formE ts x = 0) (h : stateE ts rt x = 0) (hin : InForm ts x k) : (foundK (tabP (rt.map pureT) (k : Int)) (keyOf x) || (x.kind == 1 && decide ((tabP (rt.map pureT) (k : Int)).length < 64))) = true := by
  have hk : k < rt.length := by rw [hok.len]; exact hin.lt
  have hkp : k < (rt.map pureT).length := by simpa using hk
  obtain ⟨hkv, hkk⟩ := form_key hf hok.cat
  have e0 : tabP (rt.map pureT) (k : Int) = rt[k].recs.map pureR := by rw [tabP_get hkp, List.getElem_map]; rfl
  obtain ⟨F, hF⟩ : ∃ F, foundK (rt[k].recs.map pureR) (keyOf x) = F := ⟨_, rfl⟩
  have hs := state_found hok hin.tab hk hkv hkk hF
  rw [e0, hF, List.length_map]
  rw [h] at hs
  cases F
  · by_cases h1 : x.kind = 1
    · have e1 : (x.kind == 1) = true := by simpa using h1
      rw [e1] at hs ⊢
      simp only [Bool.true_and, Bool.and_false, Bool.false_eq_true, if_false] at hs
      by_cases hl : rt[k].recs.length < 64
      · simpa using hl
      · exfalso
        have e2 : decide (64 ≤ rt[k].recs.length) = true := by simp; omega
        rw [e2] at hs
        have e3 : (x.kind != 1) = false := by simpa using h1
        rw [e3] at hs
        simp only [Bool.false_and, Bool.false_eq_true, if_false, if_true] at hs
        split at hs
        · cases hs
        · split at hs <;> cases hs
    · have e1 : (x.kind == 1) = false := by simpa using h1
      have e3 : (x.kind != 1) = true := by simpa using h1
      rw [e1, e3] at hs
      simp at hs
  · rfl
theorem tab_fitN (B p mb fb : Nat) (A : Option Addr) (c : Nat) (ts : List Tab) (F : List Fx) (RA : Option Addr) (rc n : Nat) (rt : List RTab) (kd sq dy : Int) (k : Nat) (A0 : Option Addr) (cp : Nat) (row : List Val) (key : Val) (cl : Int) (vl : Val) (w : World) (hS : SchF w B p mb fb A c ts F) (hT : TabsIn w w.heap.size A ts) (hs : SaneCat ts) (hRT : RTabsIn w w.heap.size RA rt) (hn : rt.length = n) (hok : RTabsOk ts rt) (hR : SliceIs w w.heap.size Val.cells 3 A0 row) (hrl : row.length ≤ 1000000) (hin : InForm ts ⟨kd, sq, dy, (k : Int), A0, cp, row, key, cl, vl⟩ k) (hf : formE ts ⟨kd, sq, dy, (k : Int), A0, cp, row, key, cl, vl⟩ = 0) {r : Int} (hr : stateE ts rt ⟨kd, sq, dy, (k : Int), A0, cp, row, key, cl, vl⟩ = r) :
    Calls Tryz.prog 57 #[.pointer (some ⟨p, 0, none⟩), .slice RA n rc, .agg #[.int .i64 kd, .int .i64 sq, .int .i64 dy, .int .i64 k, .slice A0 row.length cp, .int .i64 key.kind, .int .i64 key.num, .string key.text, .int .i64 cl, .int .i64 vl.kind, .int .i64 vl.num, .string vl.text]] w fun e w' => e = .returned (.int .i64 r) ∧ Below w.heap.size w w' := by
  subst hn
  exact tab_fit B p mb fb A c ts F RA rc rt kd sq dy k A0 cp row key cl vl w hS hT hs hRT hok hR hrl hin hf hr
theorem idle_TabHistory (w : World) : CallsD Tryz.prog 55 #[] .returning w fun e u' w' => e = .returned (.tuple #[]) ∧ u' = .returning ∧ w' = w := by
  refine callsD_of_wpS Tryz.func55 rfl fun c₀ cs hu => ?_
  apply wpS_region
  cases c₀
  simp_all [wpOpsS, go_sem, recoverD, Tryz.ntmps55, bodyPostS, results, Tryz.results55]
set_option maxRecDepth 100000 in
set_option maxHeartbeats 8000000 in
theorem tab_History (A : Option Addr) (c m : Nat) (ts : List Tab) (LA : Option Addr) (lc n : Nat) (l : List Chg) (w : World) (ht : TabsIn w w.heap.size A ts) (hm : ts.length = m) (hs : SaneCat ts) (hok : CatOk ts) (hl : ChgsIn w w.heap.size LA l) (hn : l.length = n) (hn6 : n ≤ 1024) (hrow : ∀ x ∈ l, x.row.length ≤ 1000000) (k : Nat) (z : Int) (hk : k ≤ l.length) (hp : ∀ i, i ≤ k → POk ts (replayE ts (l.take i))) (hg : ∀ i (h : i < l.length), i < k → HGood ts l i h) (hb : ∀ h : k < l.length, HBad ts l k h z) {ra rb : Int} (hres : (k < l.length ∧ ra = k ∧ rb = z) ∨ (k = l.length ∧ ra = 0 ∧ rb = 0)) :
    Calls Tryz.prog 24 #[.agg #[.slice A m c, .slice none 0 0, .slice none 0 0, .slice none 0 0, .slice none 0 0, .slice none 0 0, .slice none 0 0, .slice none 0 0], .slice LA n lc] w fun e w' => e = .returned (.tuple #[.int .i64 ra, .int .i64 rb]) ∧ Below w.heap.size w w' := by
  subst hm hn
  have h8 := hok.len
  obtain ⟨i7, hi7, hz7, hs7, hb7⟩ := info_parts infoRTab
  have hmk : ∀ u : World, (Instr.makeSlice 38 (.int .i64 (ts.length : Int)) (.int .i64 (ts.length : Int))).run Tryz.prog u = .ok (.slice (some ⟨u.heap.size, 0, none⟩) ts.length ts.length) (u.alloc (.cells (madeCells (RTab.cells zeroT).toArray (ts.length * 1)) 40)) := fun u => by
    have := run_make_rowN (P := Tryz.prog) 38 40 i7 (.slice none 0 0) Tryz.underlying38 hi7 hz7 .i64 .i64 ts.length ts.length (Nat.le_refl _) (by rw [hb7]; omega) (by omega) u
    rw [hs7] at this
    exact this
  have HT := Lib.hid ht
  have HS := Lib.hid hs
  have HOK := Lib.hid hok
  have HL := Lib.hid hl
  have HROW := Lib.hid hrow
  have HP := Lib.hid hp
  have HG := Lib.hid hg
  have HB := Lib.hid hb
  have HRES := Lib.hid hres
  have hn6' : decide (1024 < l.length) = false := by simp; omega
  clear ht hs hok hl hrow hp hg hb hres hi7 hz7 hs7 hb7
  go_enter_defers Tryz.func24, Tryz.ntmps24
  go_upto_region 2 with (fail)
  refine abs_world (P := fun u => Code.wp _ _ _ _ u) (R := fun u => Blk u w.heap.size 34 #[.slice A ts.length c, .slice none 0 0, .slice none 0 0, .slice none 0 0, .slice none 0 0, .slice none 0 0, .slice none 0 0, .slice none 0 0] ∧ Below w.heap.size w u) ⟨?_, ?_⟩ ?_
  · exact Blk.new _ _ _
  · exact belA
  rintro W ⟨hC, hbW⟩
  have hzC := hC.lt
  have HC := Lib.hid hC
  obtain ⟨p0, p1, p2, p3, p4, p5, p6, p7⟩ := Cat.blk hC
  clear hC
  go_upto_region 9 with (first
    | (go_at_call 38; (with_reducible refine (cat_Valid A c ts.length ts _ (HT.out.next hbW) rfl HS.out HOK.out).mono ?_); rintro e w1 ⟨rfl, hb1⟩; have hz1 := hb1.size; have hx1 : Below w.heap.size w w1 := below_nextN hbW hb1 hbW.size; clear p0 p1 p2 p3 p4 p5 p6 p7; obtain ⟨p0, p1, p2, p3, p4, p5, p6, p7⟩ := Cat.blk (HC.out.below hb1 hzC))
    | (go_at_call 39; (with_reducible refine (tab_newSchemaF A c ts.length ts _ (HT.out.next hx1) rfl HS.out HOK.out).mono ?_); rintro e w2 ⟨⟨p, mb, fb, rfl, hS2⟩, hb2⟩; have hz2 := hb2.size; have hx2 : Below w.heap.size w w2 := below_nextN hx1 hb2 hx1.size; have HS2 := Lib.hid hS2; clear hS2 p0 p1 p2 p3 p4 p5 p6 p7; obtain ⟨p0, _⟩ := Cat.blk (HC.out.below (below_nextN hb1 hb2 hz1) hzC)))
  clear hmk p0 hn6'
  have hpl := HS2.out.sch.blk.lt
  have hml := HS2.out.sch.nums.lt
  have hfl := HS2.out.blk.lt
  have hzw : w.heap.size ≤ w1.heap.size := by have := hx1.size; omega
  refine abs_world (P := fun u => Code.wp _ _ _ _ u) (R := fun u => Owns u w2.heap.size 40 RTab.cells 1 (.slice (some ⟨w2.heap.size, 0, none⟩) ts.length ts.length) (List.replicate ts.length zeroT) ∧ SchF u w1.heap.size p mb fb A c ts (List.replicate ts.length ⟨none, 0, []⟩) ∧ Below w2.heap.size w2 u) ⟨?_, ?_, ?_⟩ ?_
  · exact Owns.made rtab_len (by omega) (by rw [Nat.mul_one]; exact Blk.new' rfl) (Nat.le_refl _) (by simp [maxLen]; omega)
  · exact HS2.out.next (by exact belA)
  · exact belA
  rintro V ⟨hO, hSV, hbV⟩
  have HO := Lib.hid hO
  have HSV := Lib.hid hSV
  have hbVx : Below w.heap.size w V := below_nextN hx2 hbV hx2.size
  clear hO hSV HS2
  go_loopw [26] (fun vi wr => ∃ (i : Nat) (rt : List RTab) (F : List Fx), i ≤ k ∧ vi = .int .i64 i ∧ rt.length = ts.length ∧ Owns wr w2.heap.size 40 RTab.cells 1 (.slice (some ⟨w2.heap.size, 0, none⟩) ts.length ts.length) rt ∧ OwnT wr w2.heap.size rt ∧ rt.map pureT = replayE ts (l.take i) ∧ SchF wr w1.heap.size p mb fb A c ts F ∧ FApart F rt ∧ Below w.heap.size w wr ∧ w2.heap.size ≤ wr.heap.size) (fun vi _ => l.length - (intOf vi).toNat)
  case atStart => exact ⟨0, _, _, Nat.zero_le _, rfl, by simp, HO.out, OwnT.zero _ _ _, by rw [List.map_replicate]; rfl, HSV.out, fun f hf t ht r hr => by rw [(List.mem_replicate.1 ht).2] at hr; simp [zeroT] at hr, hbVx, hbV.size⟩
  case round =>
    obtain ⟨i, rt, F, hi, rfl, hrl, hO, hT, hpu, hSF, hap, hbr, hzr⟩ := hrel
    have HRL := Lib.hid hrl
    have HO := Lib.hid hO
    have HTT := Lib.hid hT
    have HPU := Lib.hid hpu
    have HSF := Lib.hid hSF
    have HAP := Lib.hid hap
    have hwz := hbr.size
    clear hrl hO hT hpu hSF hap
    by_cases hlt : i < l.length
    · obtain ⟨b5, o5, rfl, hb5, hc5⟩ := (HL.out.1.below hbr).get hlt
      obtain ⟨⟨q0, q1, q2, q3⟩, q4, ⟨q5, q6, q7⟩, q8, q9, q10, q11⟩ := Chg.cells12 hc5
      have hR := HL.out.2 l[i] (List.getElem_mem hlt)
      have hrl := HROW.out l[i] (List.getElem_mem hlt)
      have hpk : POk ts (rt.map pureT) := by rw [HPU.out]; exact HP.out i hi
      have hnx := replayE_succ ts hlt
      have hgd : i < k → HGood ts l i hlt := HG.out i hlt
      have hbd : ¬ i < k → HBad ts l i hlt z := fun h => by
        obtain rfl : i = k := by omega
        exact HB.out hlt
      have hrs : ¬ i < k → ra = i ∧ rb = z := fun h => by
        obtain rfl : i = k := by omega
        rcases HRES.out with h1 | h1
        · exact h1.2
        · omega
      unfold HGood at hgd
      unfold HBad at hbd
      obtain ⟨⟨kd, sq, dy, tb, A0, cp, row, key, cl, vl⟩, hx⟩ : ∃ x, l[i] = x := ⟨_, rfl⟩
      rw [hx] at q0 q1 q2 q3 q4 q5 q6 q7 q8 q9 q10 q11 hR hrl hnx hgd hbd
      simp only at q0 q1 q2 q3 q4 q5 q6 q7 q8 q9 q10 q11 hR hrl
      obtain ⟨z0, hz⟩ : ∃ z0, formE ts ⟨kd, sq, dy, tb, A0, cp, row, key, cl, vl⟩ = z0 := ⟨_, rfl⟩
      have HNX := Lib.hid hnx
      have HZ := Lib.hid hz
      have HR := Lib.hid hR
      have HPK := Lib.hid hpk
      have HGD := Lib.hid hgd
      have HBD := Lib.hid hbd
      have HRS := Lib.hid hrs
      clear hc5 hR hpk hnx hx hz hgd hbd hrs
      go_upto_region 11 with (fail)
      refine abs_world (P := fun u => Code.wp _ _ _ _ u) (R := fun u => Blk u wr.heap.size 53 (Chg.cells ⟨kd, sq, dy, tb, A0, cp, row, key, cl, vl⟩).toArray ∧ Below wr.heap.size wr u) ⟨?_, ?_⟩ ?_
      · exact Blk.new' (by simp)
      · exact belA
      clear q0 q1 q2 q3 q4 q5 q6 q7 q8 q9 q10 q11
      rintro Y ⟨hX, hbY⟩
      have hzX := hX.lt
      have hzY := hbY.size
      have HX := Lib.hid hX
      have hbYx : Below w.heap.size w Y := below_nextN hbr hbY hwz
      obtain ⟨⟨q0, q1, q2, q3⟩, q4, ⟨q5, q6, q7⟩, q8, q9, q10, q11⟩ := Chg.blkE hX
      simp only at q0 q1 q2 q3 q4 q5 q6 q7 q8 q9 q10 q11
      have HSY := Lib.hid (HSF.out.next hbY)
      have HOY := Lib.hid (HO.out.below hbY (Nat.le_refl _))
      have HTY := Lib.hid (HTT.out.below hbY (Nat.le_refl _))
      clear hX
      by_cases hz0 : z0 = 0
      rotate_left
      · have hz0' : (z0 != 0) = true := by simpa using hz0
        have hnk : ¬ i < k := fun h => hz0 (HZ.out.symm.trans (HGD.out h).1)
        have HZR : Hid (ra = i ∧ rb = z0) := Lib.hid (by
          obtain ⟨h1, h2⟩ := HRS.out hnk
          refine ⟨h1, h2.trans ?_⟩
          rcases (HBD.out hnk).2 with h3 | ⟨h3, _⟩
          · exact h3.symm.trans HZ.out
          · exact absurd (HZ.out.symm.trans h3) hz0)
        clear hz0 hnk
        go_wp2_with (go_at_call 40; (with_reducible refine (tab_form w1.heap.size p mb fb A c ts F kd sq dy tb A0 cp row key cl vl _ HSY.out (HT.out.next hbYx) HS.out HOK.out (by omega) (HR.out.next hbYx) hrl HZ.out).mono ?_); rintro e w5 ⟨rfl, ⟨F5, hS5, hn5⟩, hg5⟩)
        have hz5 := hg5.size
        have hb5' : Below w.heap.size w w5 := Below.grown hbYx hg5 (by omega) (fun g e => by injection e with e; have := hS5.lf; omega)
        refine leaves_cons (f := 55) (args := #[]) (by simp) (by simp [go_sem]) ?_
        refine (idle_TabHistory _).mono ?_
        rintro e u' w'' ⟨rfl, rfl, rfl⟩
        refine ⟨_, results_tmp2 rfl _ _ _, ?_⟩
        obtain ⟨h1, h2⟩ := HZR.out
        subst h1 h2
        exact ⟨rfl, hb5'⟩
      subst hz0
      obtain ⟨t, hin⟩ := formE_in HZ.out
      have htb : tb = (t : Int) := hin.tab
      subst htb
      have HIN := Lib.hid hin
      have HRK : Hid (RTabsOk ts rt) := Lib.hid (HPK.out.back HOK.out)
      have HNXT : Hid (replayE ts (l.take (i + 1)) = performE (rt.map pureT) ⟨kd, sq, dy, (t : Int), A0, cp, row, key, cl, vl⟩) := Lib.hid (by rw [HNX.out, HZ.out, if_pos rfl, ← HPU.out])
      clear hin
      go_upto_region 14 with (go_at_call 40; (with_reducible refine (tab_form w1.heap.size p mb fb A c ts F kd sq dy (t : Int) A0 cp row key cl vl _ HSY.out (HT.out.next hbYx) HS.out HOK.out (by omega) (HR.out.next hbYx) hrl HZ.out).mono ?_); rintro e w5 ⟨rfl, ⟨F5, hS5, hn5⟩, hg5⟩)
      have hz5 := hg5.size
      have hb5' : Below w.heap.size w w5 := Below.grown hbYx hg5 (by omega) (fun g e => by injection e with e; have := hS5.lf; omega)
      have HS5 := Lib.hid hS5
      have HN5 := Lib.hid (HAP.out.new hn5 HTY.out)
      have HO5 := Lib.hid (HOY.out.keepF hg5 hfl)
      have HT5 := Lib.hid (HTY.out.keepF hg5 hfl)
      have hX5 := HX.out.grown hg5 (fun e => by injection e with e; omega)
      have HX5 := Lib.hid hX5
      have hX5l := hX5.lt
      clear q0 q1 q2 q3 q4 q5 q6 q7 q8 q9 q10 q11 hS5 hn5 hg5 HSY HOY HTY HX HSF HAP
      obtain ⟨⟨q0, q1, q2, q3⟩, q4, ⟨q5, q6, q7⟩, q8, q9, q10, q11⟩ := Chg.blkE hX5
      simp only at q0 q1 q2 q3 q4 q5 q6 q7 q8 q9 q10 q11
      clear hX5
      have hz5w := hb5'.size
      have k0 := keepQ (w := w5) wr.heap.size hX5l
      by_cases h0 : 0 < i
      · have hkz : decide ((0 : Int) < (i : Int)) = true := by simp; omega
        have hkz2 : decide (0 < i) = true := by simpa using h0
        have hk1l : i - 1 < l.length := by omega
        have hk1l' : decide (i - 1 < l.length) = true := by simpa using hk1l
        have hwrap : IntKind.i64.wrap ((i : Int) - 1) = ((i - 1 : Nat) : Int) := by rw [show (i : Int) - 1 = ((i - 1 : Nat) : Int) by omega]; exact IntWalk.i64_in _ (by omega)
        obtain ⟨b3, o3, he3, _, hc3⟩ := (HL.out.1.below hb5').get hk1l
        injection he3 with he3
        injection he3 with he4 he5
        subst he4 he5
        have hbz := hbr.size
        have k1 := keepQ (w := w5) b5 (by omega)
        obtain ⟨⟨f0, f1, f2, f3⟩, f4, ⟨f5, f6, f7⟩, f8, f9, f10, f11⟩ := Chg.cells12 hc3
        obtain ⟨⟨pk, ps, pd, pt, PA, pp, prow, pkey, pc, pv⟩, hpx⟩ : ∃ x, l[i - 1] = x := ⟨_, rfl⟩
        rw [hpx] at f0 f1 f2 f3 f4 f5 f6 f7 f8 f9 f10 f11
        simp only at f0 f1 f2 f3 f4 f5 f6 f7 f8 f9 f10 f11
        have HPX := Lib.hid hpx
        obtain ⟨fo, hfo⟩ : ∃ fo, (decide (ps < sq) && decide (pd ≤ dy)) = fo := ⟨_, rfl⟩
        have HFO := Lib.hid hfo
        have HFX : Hid (folB l[i - 1] ⟨kd, sq, dy, (t : Int), A0, cp, row, key, cl, vl⟩ = fo) := Lib.hid (by rw [hpx]; exact hfo)
        clear hc3 hpx hfo
        refine wp_region_bel (by kernel_rfl) (by kernel_rfl) ?_; (repeat (go_big_quiet_step ((go_at_call 56; with_reducible exact bel_of (tab_follows ⟨pk, ps, pd, pt, PA, pp, prow, pkey, pc, pv⟩ ⟨kd, sq, dy, (t : Int), A0, cp, row, key, cl, vl⟩ _ HFO.out))))); refine wpQuiet_nil ?_; intro wq hq
        clear f0 f1 f2 f3 f4 f5 f6 f7 f8 f9 f10 f11 k0 k1 hkz hkz2 hk1l' hwrap q0 q1 q2 q3 q4 q5 q6 q7 q8 q9 q10 q11
        cases fo
        · have hnk : ¬ i < k := fun h => by
            have h1 := (HGD.out h).2.1 h0
            rw [HFX.out] at h1
            cases h1
          have HZR : Hid (ra = i ∧ rb = 12) := Lib.hid (by
            obtain ⟨h1, h2⟩ := HRS.out hnk
            refine ⟨h1, h2.trans ?_⟩
            obtain ⟨hz, h3 | ⟨h3, ⟨_, h4, h5⟩ | ⟨h4, _⟩⟩⟩ := HBD.out hnk
            · exact absurd (h3.symm.trans HZ.out) hz
            · exact h5
            · have h5 := h4 h0
              rw [HFX.out] at h5
              cases h5)
          clear h0 hnk
          go_wp2_with fail
          refine leaves_cons (f := 55) (args := #[]) (by simp) (by simp [go_sem]) ?_
          refine (idle_TabHistory _).mono ?_
          rintro e u' w'' ⟨rfl, rfl, rfl⟩
          refine ⟨_, results_tmp2 rfl _ _ _, ?_⟩
          obtain ⟨h1, h2⟩ := HZR.out
          subst h1 h2
          exact ⟨rfl, below_nextN hb5' hq hz5w⟩
        clear h0
        have hq5 := hq.size
        have hbq : Below w.heap.size w wq := below_nextN hb5' hq hz5w
        obtain ⟨⟨q0, q1, q2, q3⟩, q4, ⟨q5, q6, q7⟩, q8, q9, q10, q11⟩ := Chg.blkE (HX5.out.below hq hX5l)
        simp only at q0 q1 q2 q3 q4 q5 q6 q7 q8 q9 q10 q11
        have HO6 := Lib.hid (HO5.out.below hq (by omega))
        have HT6 := Lib.hid (HT5.out.below hq (by omega))
        obtain ⟨s, hs⟩ : ∃ s, stateE ts rt ⟨kd, sq, dy, (t : Int), A0, cp, row, key, cl, vl⟩ = s := ⟨_, rfl⟩
        have HST := Lib.hid hs
        clear hs
        by_cases hs0 : s = 0
        rotate_left
        · have hs0' : (s != 0) = true := by simpa using hs0
          have hnk : ¬ i < k := fun h => hs0 (HST.out.symm.trans ((HGD.out h).2.2 rt HPU.out))
          have HZR : Hid (ra = i ∧ rb = s) := Lib.hid (by
            obtain ⟨h1, h2⟩ := HRS.out hnk
            refine ⟨h1, h2.trans ?_⟩
            obtain ⟨hz, h3 | ⟨h3, ⟨h0, h4, h5⟩ | ⟨_, h4⟩⟩⟩ := HBD.out hnk
            · exact absurd (h3.symm.trans HZ.out) hz
            · exact (by rw [HFX.out] at h4; cases h4)
            · exact (h4 rt HPU.out).symm.trans HST.out)
          clear hs0 hnk
          go_wp2_with (go_at_call 57; (with_reducible refine (tab_fitN w1.heap.size p mb fb A c ts F5 (some ⟨w2.heap.size, 0, none⟩) ts.length ts.length rt kd sq dy t A0 cp row key cl vl _ (HS5.out.next hq) (HT.out.next hbq) HS.out (HT6.out.read HO6.out) HRL.out HRK.out (HR.out.next hbq) hrl HIN.out HZ.out HST.out).mono ?_); rintro e w7 ⟨rfl, hb7⟩)
          refine leaves_cons (f := 55) (args := #[]) (by simp) (by simp [go_sem]) ?_
          refine (idle_TabHistory _).mono ?_
          rintro e u' w'' ⟨rfl, rfl, rfl⟩
          refine ⟨_, results_tmp2 rfl _ _ _, ?_⟩
          obtain ⟨h1, h2⟩ := HZR.out
          subst h1 h2
          exact ⟨rfl, below_nextN hbq hb7 hbq.size⟩
        subst hs0
        have HEF := Lib.hid (state_perf HRK.out HZ.out HST.out HIN.out)
        have hik : i < k := by
          rcases Nat.lt_or_ge i k with h | h
          · exact h
          · exfalso
            have hnk : ¬ i < k := by omega
            obtain ⟨hz, h3 | ⟨h3, ⟨h0, h4, h5⟩ | ⟨_, h4⟩⟩⟩ := HBD.out hnk
            · exact hz (h3.symm.trans HZ.out)
            · exact (by rw [HFX.out] at h4; cases h4)
            · exact hz ((h4 rt HPU.out).symm.trans HST.out)
        go_upto_region 19 with (go_at_call 57; (with_reducible refine (tab_fitN w1.heap.size p mb fb A c ts F5 (some ⟨w2.heap.size, 0, none⟩) ts.length ts.length rt kd sq dy t A0 cp row key cl vl _ (HS5.out.next hq) (HT.out.next hbq) HS.out (HT6.out.read HO6.out) HRL.out HRK.out (HR.out.next hbq) hrl HIN.out HZ.out HST.out).mono ?_); rintro e w7 ⟨rfl, hb7⟩)
        clear q0 q1 q2 q3 q4 q5 q6 q7 q8 q9 q10 q11
        have hb7' : Below w.heap.size w w7 := below_nextN hbq hb7 hbq.size
        have hz7 := hb7.size
        obtain ⟨⟨q0, q1, q2, q3⟩, q4, ⟨q5, q6, q7⟩, q8, q9, q10, q11⟩ := Chg.blkE ((HX5.out.below hq hX5l).below hb7 (by omega))
        simp only at q0 q1 q2 q3 q4 q5 q6 q7 q8 q9 q10 q11
        go_wp2_with (go_at_call 42; (with_reducible refine (tab_perform ts w2.heap.size w2.heap.size ts.length rt kd sq dy t A0 cp row key cl vl _ (HO6.out.below hb7 (by omega)) HRL.out.symm (HT6.out.below hb7 (by omega)) (by omega) (HR.out.next hb7') HOK.out HPK.out HIN.out HZ.out HEF.out).mono ?_); rintro e w8 ⟨rfl, rt', hl8, hO8, hT8, hp8, hb8, hik8⟩)
        obtain ⟨hS8, hF8⟩ := ((HS5.out.next hq).next hb7).perf HN5.out hb8 hpl hml hfl hik8
        clear q0 q1 q2 q3 q4 q5 q6 q7 q8 q9 q10 q11
        have hz8 := hb8.size
        go_roundw
        case rel => exact ⟨i + 1, rt', F5, by omega, by go_num, hl8, hO8, hT8, by rw [hp8, HNXT.out], hS8, hF8, hb7'.trans (hb8.mono (by omega)), by omega⟩
        case measure => simp [intOf]; omega
      · have hkz : decide ((0 : Int) < (i : Int)) = false := by simp; omega
        have hkz2 : decide (0 < i) = false := by simpa using h0
        have HN0 := Lib.hid h0
        clear h0
        refine wp_region_bel (by kernel_rfl) (by kernel_rfl) ?_; (repeat (go_big_quiet_step (fail))); refine wpQuiet_nil ?_; intro wq hq
        clear k0 hkz hkz2 q0 q1 q2 q3 q4 q5 q6 q7 q8 q9 q10 q11
        have hq5 := hq.size
        have hbq : Below w.heap.size w wq := below_nextN hb5' hq hz5w
        obtain ⟨⟨q0, q1, q2, q3⟩, q4, ⟨q5, q6, q7⟩, q8, q9, q10, q11⟩ := Chg.blkE (HX5.out.below hq hX5l)
        simp only at q0 q1 q2 q3 q4 q5 q6 q7 q8 q9 q10 q11
        have HO6 := Lib.hid (HO5.out.below hq (by omega))
        have HT6 := Lib.hid (HT5.out.below hq (by omega))
        obtain ⟨s, hs⟩ : ∃ s, stateE ts rt ⟨kd, sq, dy, (t : Int), A0, cp, row, key, cl, vl⟩ = s := ⟨_, rfl⟩
        have HST := Lib.hid hs
        clear hs
        by_cases hs0 : s = 0
        rotate_left
        · have hs0' : (s != 0) = true := by simpa using hs0
          have hnk : ¬ i < k := fun h => hs0 (HST.out.symm.trans ((HGD.out h).2.2 rt HPU.out))
          have HZR : Hid (ra = i ∧ rb = s) := Lib.hid (by
            obtain ⟨h1, h2⟩ := HRS.out hnk
            refine ⟨h1, h2.trans ?_⟩
            obtain ⟨hz, h3 | ⟨h3, ⟨h0, h4, h5⟩ | ⟨_, h4⟩⟩⟩ := HBD.out hnk
            · exact absurd (h3.symm.trans HZ.out) hz
            · exact absurd h0 HN0.out
            · exact (h4 rt HPU.out).symm.trans HST.out)
          clear hs0 hnk
          go_wp2_with (go_at_call 57; (with_reducible refine (tab_fitN w1.heap.size p mb fb A c ts F5 (some ⟨w2.heap.size, 0, none⟩) ts.length ts.length rt kd sq dy t A0 cp row key cl vl _ (HS5.out.next hq) (HT.out.next hbq) HS.out (HT6.out.read HO6.out) HRL.out HRK.out (HR.out.next hbq) hrl HIN.out HZ.out HST.out).mono ?_); rintro e w7 ⟨rfl, hb7⟩)
          refine leaves_cons (f := 55) (args := #[]) (by simp) (by simp [go_sem]) ?_
          refine (idle_TabHistory _).mono ?_
          rintro e u' w'' ⟨rfl, rfl, rfl⟩
          refine ⟨_, results_tmp2 rfl _ _ _, ?_⟩
          obtain ⟨h1, h2⟩ := HZR.out
          subst h1 h2
          exact ⟨rfl, below_nextN hbq hb7 hbq.size⟩
        subst hs0
        have HEF := Lib.hid (state_perf HRK.out HZ.out HST.out HIN.out)
        have hik : i < k := by
          rcases Nat.lt_or_ge i k with h | h
          · exact h
          · exfalso
            have hnk : ¬ i < k := by omega
            obtain ⟨hz, h3 | ⟨h3, ⟨h0, h4, h5⟩ | ⟨_, h4⟩⟩⟩ := HBD.out hnk
            · exact hz (h3.symm.trans HZ.out)
            · exact absurd h0 HN0.out
            · exact hz ((h4 rt HPU.out).symm.trans HST.out)
        go_upto_region 19 with (go_at_call 57; (with_reducible refine (tab_fitN w1.heap.size p mb fb A c ts F5 (some ⟨w2.heap.size, 0, none⟩) ts.length ts.length rt kd sq dy t A0 cp row key cl vl _ (HS5.out.next hq) (HT.out.next hbq) HS.out (HT6.out.read HO6.out) HRL.out HRK.out (HR.out.next hbq) hrl HIN.out HZ.out HST.out).mono ?_); rintro e w7 ⟨rfl, hb7⟩)
        clear q0 q1 q2 q3 q4 q5 q6 q7 q8 q9 q10 q11
        have hb7' : Below w.heap.size w w7 := below_nextN hbq hb7 hbq.size
        have hz7 := hb7.size
        obtain ⟨⟨q0, q1, q2, q3⟩, q4, ⟨q5, q6, q7⟩, q8, q9, q10, q11⟩ := Chg.blkE ((HX5.out.below hq hX5l).below hb7 (by omega))
        simp only at q0 q1 q2 q3 q4 q5 q6 q7 q8 q9 q10 q11
        go_wp2_with (go_at_call 42; (with_reducible refine (tab_perform ts w2.heap.size w2.heap.size ts.length rt kd sq dy t A0 cp row key cl vl _ (HO6.out.below hb7 (by omega)) HRL.out.symm (HT6.out.below hb7 (by omega)) (by omega) (HR.out.next hb7') HOK.out HPK.out HIN.out HZ.out HEF.out).mono ?_); rintro e w8 ⟨rfl, rt', hl8, hO8, hT8, hp8, hb8, hik8⟩)
        obtain ⟨hS8, hF8⟩ := ((HS5.out.next hq).next hb7).perf HN5.out hb8 hpl hml hfl hik8
        clear q0 q1 q2 q3 q4 q5 q6 q7 q8 q9 q10 q11
        have hz8 := hb8.size
        go_roundw
        case rel => exact ⟨i + 1, rt', F5, by omega, by go_num, hl8, hO8, hT8, by rw [hp8, HNXT.out], hS8, hF8, hb7'.trans (hb8.mono (by omega)), by omega⟩
        case measure => simp [intOf]; omega
    · have hlt' : decide (i < l.length) = false := by simpa using hlt
      have HZR : Hid (ra = 0 ∧ rb = 0) := Lib.hid (by
        rcases HRES.out with h1 | h1
        · omega
        · exact h1.2)
      go_wp2_with fail
      refine leaves_cons (f := 55) (args := #[]) (by simp) (by simp [go_sem]) ?_
      refine (idle_TabHistory _).mono ?_
      rintro e u' w'' ⟨rfl, rfl, rfl⟩
      refine ⟨_, results_tmp2 rfl _ _ _, ?_⟩
      obtain ⟨h1, h2⟩ := HZR.out
      subst h1 h2
      exact ⟨rfl, hbr⟩
end Go.Proofs.YtkiglflbngfelaaGreat
