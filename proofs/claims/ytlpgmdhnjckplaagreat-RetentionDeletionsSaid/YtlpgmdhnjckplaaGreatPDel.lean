import Derived.Test.YtlpgmdhnjckplaaGreatSup
/-
  Retention in the program: the deletions of records (P18.3) for valid catalogues of tables.
-/
import Derived.Test.YtlpgmdhnjckplaaGreatR22
import Derived.Test.YtlpgmdhnjckplaaGreatDelP
set_option linter.unusedVariables false
set_option linter.unusedSimpArgs false
namespace Go.Proofs.YtlpgmdhnjckplaaGreat
open Go.RowKit Go

/-- A panic that the deferred calls will meet does not see a slot that is no result's. -/
theorem leaves_put {P : Program} {fn : Func} {t t' : Array Value} {R : Ending → World → Prop} (ht : results fn t = results fn t') : ∀ (ds : List Deferred) (u : FrameMode) (w : World), Leaves P fn t R ds u w → Leaves P fn t' R ds u w
  | [], .returning, w, h => by obtain ⟨v, h1, h2⟩ := h; exact ⟨v, by rw [← ht]; exact h1, h2⟩
  | [], .panicking _, w, h => h
  | [], .run, w, h => h
  | d :: ds, u, w, h => by
    obtain ⟨h1, fv, cap, f, args, h2, h3, h4⟩ := h
    refine ⟨h1, fv, cap, f, args, h2, h3, h4.mono fun e u' w' h5 => ?_⟩
    cases e with
    | returned _ => exact leaves_put ht ds _ _ h5
    | panicked _ => exact leaves_put ht ds _ _ h5
    | outgrown => exact h5
theorem panicD {P : Program} {fn : Func} {R : Ending → World → Prop} {d : Nat} {v : Value} (hd : ∀ t : Array Value, results fn (t.setIfInBounds d v) = results fn t) (c : List PanicEntry) (a : Act) (w : World) (h : bodyPostD P fn R (.panic c) (a.put (some d) v) w) : bodyPostD P fn R (.panic c) a w := leaves_put (hd a.tmps) _ _ _ h
theorem res_del {d : Nat} {v : Value} (hd : d ≠ 10) (t : Array Value) : results Tryz.f78 (t.setIfInBounds d v) = results Tryz.f78 t := by
  simp [results, Tryz.results78, Array.getElem?_setIfInBounds_ne hd]
theorem sort_ret_nilN (n : Nat) (hn : n = 0) (w : World) :
    Calls Tryz.prog 75 #[.slice none n 0, .func (.func 76) #[] #[]] w fun e w' => e = .returned (.tuple #[]) ∧ w = w' := by
  subst hn
  exact sort_ret_nil w
theorem zero_val (u : World) : (zeroValue 88).run Tryz.prog u = .ok (.agg #[.int .i64 0, .int .i64 0, .string ⟨#[]⟩]) u := by kernel_rfl
/-- The keys of the wanted sources. -/
def keyV (rt : List RTab) (s : Src) : Value := valV (keyS rt s)
theorem wantL_all {rt : List RTab} (gone : List Src) {i : Nat} (hi : i < rt.length) : wantL gone (allSrc rt i ++ (rt[i].recs.take rt[i].recs.length).map (srcR i)) = wantL gone (allSrc rt (i + 1)) := by
  rw [List.take_length, allSrc, recsI_get hi]
theorem DelIs.no {ts : List Tab} {rt : List RTab} {gone : List Src} {seq day : Int} (h : ¬ DelOk ts rt gone seq day) : DelIs ts rt gone seq day [] := .inr ⟨h, rfl⟩
theorem idle_RetDel (w : World) : CallsD Tryz.prog 134 #[] .returning w fun e u' w' => e = .returned (.tuple #[]) ∧ u' = .returning ∧ w' = w := by
  refine callsD_of_wpS Tryz.func134 rfl fun c₀ cs hu => ?_
  apply wpS_region
  cases c₀
  simp_all [wpOpsS, go_sem, recoverD, Tryz.ntmps134, bodyPostS, results, Tryz.results134]
set_option maxRecDepth 100000 in
set_option maxHeartbeats 8000000 in
theorem ret_Deletions (A : Option Addr) (c m : Nat) (ts : List Tab) (RA : Option Addr) (rc n : Nat) (rt : List RTab) (GA : Option Addr) (gc gn : Nat) (gone : List Src) (seq day : Int) (w : World) (ht : TabsIn w w.heap.size A ts) (hm : ts.length = m) (hs : SaneCat ts) (hok : CatOk ts) (hR : RTabsIn w w.heap.size RA rt) (hn : rt.length = n) (hsr : SaneR rt) (hG : SliceIs w w.heap.size Src.cells 2 GA gone) (hgl : gone.length = gn) (hg6 : gn ≤ 1000000) (hgk : SrcsIn gone) :
    Calls Tryz.prog 78 #[.agg #[.slice A m c, .slice none 0 0, .slice none 0 0, .slice none 0 0, .slice none 0 0, .slice none 0 0, .slice none 0 0, .slice none 0 0], .slice RA n rc, .slice GA gn gc, .int .i64 seq, .int .i64 day] w fun e w' =>
      (∃ EA ec l, e = .returned (.slice EA l.length ec) ∧ SliceIs w' w'.heap.size Chg.cells 12 EA l ∧ DelIs ts rt gone seq day l) ∧ Below w.heap.size w w' := by
  subst hm hn hgl
  obtain ⟨i0, hi0, hz0, hz1, hz2⟩ := info_parts infoSrc
  obtain ⟨j0, hj0, hy0, hy1, hy2⟩ := info_parts infoChg
  have h8 := hok.len
  have HT := Lib.hid ht
  have HS := Lib.hid hs
  have HOK := Lib.hid hok
  have HR := Lib.hid hR
  have HR1 := Lib.hid hR.1
  have HR2 := Lib.hid hR.2
  have HSR := Lib.hid hsr
  have HG := Lib.hid hG
  have HGK := Lib.hid hgk
  have hmm := @run_makeMap Tryz.prog
  clear ht hs hok hR hsr hG hgk
  go_enter_defers Tryz.func78, Tryz.ntmps78
  go_upto_region 2 with (fail)
  refine abs_world (P := fun u => Code.wp _ _ _ _ u) (R := fun u => Blk u w.heap.size 34 #[.slice A ts.length c, .slice none 0 0, .slice none 0 0, .slice none 0 0, .slice none 0 0, .slice none 0 0, .slice none 0 0, .slice none 0 0] ∧ Below w.heap.size w u) ⟨?_, ?_⟩ ?_
  · exact Blk.new _ _ _
  · exact belA
  rintro W ⟨hB, hbW⟩
  have hzW := hB.lt
  obtain ⟨p0, p1, p2, p3, p4, p5, p6, p7⟩ := Cat.blk hB
  clear hB
  obtain ⟨r0, hr0⟩ : ∃ b, pb (RTabsOk ts rt) = b := ⟨_, rfl⟩
  obtain ⟨r1, hr1⟩ : ∃ b, decide (day < 0) = b := ⟨_, rfl⟩
  obtain ⟨r2, hr2⟩ : ∃ b, decide (1048576 < day) = b := ⟨_, rfl⟩
  have HVAL := Lib.hid fun (u : World) (hu : Below W.heap.size W u) => tab_Valid A c ts.length ts RA rc rt.length rt u (HT.out.next (below_nextN hbW hu hbW.size)) rfl HS.out HOK.out (HR.out.next (below_nextN hbW hu hbW.size)) rfl HSR.out hr0
  have HNIL : Hid ((r0 && !r1 && !r2) = false → DelIs ts rt gone seq day []) := Lib.hid fun h => DelIs.no fun hd => by
    have h1 := hd.dayOk
    have e0 : r0 = true := by rw [← hr0]; exact pb_true hd.tabs
    have e1 : r1 = false := by rw [← hr1]; exact decide_eq_false (by omega)
    have e2 : r2 = false := by rw [← hr2]; exact decide_eq_false (by omega)
    rw [e0, e1, e2] at h
    cases h
  have HR0 := Lib.hid hr0
  clear hr0
  cases r0
  · clear hmm
    go_wp2_with (go_at_call 74; (with_reducible refine (HVAL.out _ (Below.refl _ _)).mono ?_); rintro e w1 ⟨rfl, hb1⟩; have hx1 : Below w.heap.size w w1 := below_nextN hbW hb1 hbW.size)
    refine leaves_cons (f := 134) (args := #[]) (by simp) (by simp [go_sem]) ?_; refine (idle_RetDel _).mono ?_; rintro e u' w'' ⟨rfl, rfl, rfl⟩; refine ⟨_, results_tmp rfl _ _ _, ?_⟩
    exact ⟨⟨none, 0, [], rfl, SliceIs.nil, HNIL.out rfl⟩, hx1⟩
  cases r1
  case true => clear hmm
               go_wp2_with (go_at_call 74; (with_reducible refine (HVAL.out _ (Below.refl _ _)).mono ?_); rintro e w1 ⟨rfl, hb1⟩; have hx1 : Below w.heap.size w w1 := below_nextN hbW hb1 hbW.size)
               refine leaves_cons (f := 134) (args := #[]) (by simp) (by simp [go_sem]) ?_; refine (idle_RetDel _).mono ?_; rintro e u' w'' ⟨rfl, rfl, rfl⟩; refine ⟨_, results_tmp rfl _ _ _, ?_⟩
               exact ⟨⟨none, 0, [], rfl, SliceIs.nil, HNIL.out rfl⟩, hx1⟩
  cases r2
  case true => clear hmm
               go_wp2_with (go_at_call 74; (with_reducible refine (HVAL.out _ (Below.refl _ _)).mono ?_); rintro e w1 ⟨rfl, hb1⟩; have hx1 : Below w.heap.size w w1 := below_nextN hbW hb1 hbW.size)
               refine leaves_cons (f := 134) (args := #[]) (by simp) (by simp [go_sem]) ?_; refine (idle_RetDel _).mono ?_; rintro e u' w'' ⟨rfl, rfl, rfl⟩; refine ⟨_, results_tmp rfl _ _ _, ?_⟩
               exact ⟨⟨none, 0, [], rfl, SliceIs.nil, HNIL.out rfl⟩, hx1⟩
  have HVV := Lib.hid (pb_iff.1 HR0.out)
  have hd0 : 0 ≤ day := by rw [decide_eq_false_iff_not] at hr1; omega
  have hd1 : day ≤ 1048576 := by rw [decide_eq_false_iff_not] at hr2; omega
  go_upto_region 4 with (go_at_call 74; (with_reducible refine (HVAL.out _ (Below.refl _ _)).mono ?_); rintro e w1 ⟨rfl, hb1⟩)
  refine abs_world (P := fun u => Code.wp _ _ _ _ u) (R := fun u => Below W.heap.size W u) hb1 ?_
  clear hb1 p0 p1 p2 p3 p4 p5 p6 p7 hr1 hr2 HVAL HNIL
  rintro W1 hb1
  have hx1 := below_nextN hbW hb1 hbW.size
  have hz1' := hb1.size
  have hrl8 : rt.length ≤ 8 := by rw [HVV.out.len]; exact h8
  go_upto_region 6 with (fail)
  clear hmm
  go_loopw [39] (fun vi wr => ∃ i : Nat, i ≤ gone.length ∧ vi = .int .i64 i ∧ MapH Tryz.prog 68 wr W1.heap.size i (mapS (fun _ => .bool true) (gone.take i)) ∧ Below W1.heap.size W1 wr) (fun vi _ => gone.length - (intOf vi).toNat)
  case atStart => exact ⟨0, Nat.zero_le _, rfl, made_mapS W1 _, by exact belA⟩
  case round =>
    obtain ⟨i, hi, rfl, hM, hbr⟩ := hrel
    have hwz := hbr.size
    have hMl := hM.lt
    have HM := Lib.hid hM
    have hxr := below_nextN hx1 hbr hx1.size
    clear hM
    by_cases hlt : i < gone.length
    · obtain ⟨b5, o5, rfl, hb5, hc5⟩ := (HG.out.below hxr).get hlt
      obtain ⟨s0, s1⟩ := Src.cells2 hc5
      obtain ⟨kl, hkl⟩ := HGK.out.key (List.getElem_mem hlt)
      have hts := List.take_succ_eq_append_getElem hlt
      obtain ⟨⟨tb, sq⟩, hs⟩ : ∃ x, gone[i] = x := ⟨_, rfl⟩
      rw [hs] at s0 s1 hkl hts
      have HNEW : Hid (mapS (fun _ => .bool true) (gone.take (i + 1)) (.agg #[.int .i64 tb, .int .i64 sq]) = some (.bool true)) := Lib.hid (by rw [hts]; exact mapS_new _ _ ⟨tb, sq⟩)
      have HOLD : Hid (∀ u, u ≠ .agg #[.int .i64 tb, .int .i64 sq] → mapS (fun _ => .bool true) (gone.take (i + 1)) u = mapS (fun _ => .bool true) (gone.take i) u) := Lib.hid fun u hu => by rw [hts]; exact mapS_old hu
      simp only at s0 s1
      unfold srcV at hkl
      simp only at hkl
      clear hc5 hs hts
      go_upto_region 8 with (fail)
      refine abs_world (P := fun u => Code.wp _ _ _ _ u) (R := fun u => Blk u wr.heap.size 68 #[.int .i64 tb, .int .i64 sq] ∧ Below wr.heap.size wr u) ⟨?_, ?_⟩ ?_
      · exact Blk.new _ _ _
      · exact belA
      rintro U ⟨hD, hbU⟩
      have hDl := hD.lt
      have hyU := below_nextN hbr hbU hwz
      have HMU := Lib.hid (HM.out.below hbU hMl)
      have v0 := hD.cell 0
      have v1 := hD.cell 1
      simp only [List.getElem?_toArray, List.getElem?_cons_zero, List.getElem?_cons_succ] at v0 v1
      clear s0 s1 hD
      go_wp2_with (at_mapUpdate; refine wpList_storeH _ rfl _ _ _ _ rfl 68 4 src_keyed Tryz.underlying156 W1.heap.size i _ rfl HMU.out (by unfold maxLen; omega) (.agg #[.int .i64 tb, .int .i64 sq]) _ rfl hkl (.bool true) rfl (mapS (fun _ => .bool true) (gone.take (i + 1))) HNEW.out HOLD.out ?_; intro w3 hM3 hg3)
      go_roundw
      case rel => exact ⟨i + 1, by omega, by go_num, hM3, Below.grown hyU hg3 (by omega) (fun q e => by injection e with e; omega)⟩
      case measure => simp [intOf]; omega
    · have hlt' : decide (i < gone.length) = false := by simpa using hlt
      obtain rfl : i = gone.length := by omega
      have HMW : Hid (MapH Tryz.prog 68 wr W1.heap.size gone.length (mapS (fun _ => .bool true) gone)) := Lib.hid (by have h := HM.out; rwa [List.take_length] at h)
      obtain ⟨X1, rfl⟩ : ∃ V : World, V = wr := ⟨_, rfl⟩
      have hmm := @run_makeMap Tryz.prog
      clear hlt hi HM
      go_upto_region 12 with (fail)
      clear hmm
      refine abs_world (P := fun u => Code.wp _ _ _ _ u) (R := fun u => MapH Tryz.prog 68 u X1.heap.size 0 (mapS (keyV rt) []) ∧ Below X1.heap.size X1 u) ⟨made_mapS _ _, by exact belA⟩ ?_
      rintro V ⟨hKM, hbV⟩
      have hKl := hKM.lt
      have HKM := Lib.hid hKM
      clear hKM
      go_upto_region 13 with (fail)
      go_loopw [14, 49] (fun vo vi wr => ∃ i : Nat, i ≤ rt.length ∧ vi = .int .i64 i ∧ Owns wr V.heap.size 68 Src.cells 2 vo (wantL gone (allSrc rt i)) ∧ MapH Tryz.prog 68 wr X1.heap.size (64 * i) (mapS (keyV rt) (wantL gone (allSrc rt i))) ∧ Below X1.heap.size X1 wr ∧ V.heap.size ≤ wr.heap.size) (fun _ vi _ => rt.length - (intOf vi).toNat)
      case atStart => exact ⟨0, Nat.zero_le _, rfl, Owns.nil, HKM.out, hbV, Nat.le_refl _⟩
      case round =>
        obtain ⟨i, hi, rfl, hown, hK, hbi, hvz⟩ := hrel
        have hiz := hbi.size
        have hxi := below_nextN hxr hbi hxr.size
        have HOWN := Lib.hid hown
        have HK := Lib.hid hK
        clear hown hK
        have hall : (allSrc rt i).length ≤ 64 * i := allSrc_len (rt := rt) (fun i h => (HVV.out.tab i h (by have := HVV.out.len; omega)).len) i
        by_cases hlt : i < rt.length
        · have hlts : i < ts.length := by have := HVV.out.len; omega
          obtain ⟨b6, o6, rfl, hb6, hc6⟩ := (HR1.out.below hxi).get hlt
          have q0 := hc6 0 _ rfl
          simp only [Nat.mul_one, Nat.add_zero] at q0
          have hrin : RecsIn w w.heap.size rt[i].A rt[i].recs := HR2.out rt[i] (List.getElem_mem hlt)
          have htab := HVV.out.tab i hlt hlts
          have HALL := Lib.hid (wantL_all gone hlt)
          have HKEY : Hid (∀ j (hj : j < rt[i].recs.length), keyS rt (srcR i rt[i].recs[j]) = headV rt[i].recs[j]) := Lib.hid fun j hj => keyS_at hlt hj (htab.at_ j hj).own
          obtain ⟨recs, hrecs⟩ : ∃ l, rt[i].recs = l := ⟨_, rfl⟩
          obtain ⟨RI, hRI⟩ : ∃ a, rt[i].A = a := ⟨_, rfl⟩
          rw [hrecs] at q0 hrin htab HALL HKEY
          rw [hRI] at q0 hrin
          have HRI := Lib.hid hrin.1
          have HRI2 := Lib.hid hrin.2
          have HTAB := Lib.hid htab
          have h64 := htab.len
          have hcpos := (HOK.out.cols hlts).1
          clear hc6 hrin hrecs htab hRI
          go_upto_region 16 with (fail)
          obtain ⟨Y, rfl⟩ : ∃ Y : World, Y = wr := ⟨_, rfl⟩
          go_loopw [14, 56] (fun vo vj wi => ∃ j : Nat, j ≤ recs.length ∧ vj = .int .i64 j ∧ Owns wi V.heap.size 68 Src.cells 2 vo (wantL gone (allSrc rt i ++ (recs.take j).map (srcR i))) ∧ MapH Tryz.prog 68 wi X1.heap.size (64 * i + j) (mapS (keyV rt) (wantL gone (allSrc rt i ++ (recs.take j).map (srcR i)))) ∧ Below X1.heap.size X1 wi ∧ V.heap.size ≤ wi.heap.size) (fun _ vj _ => recs.length - (intOf vj).toNat)
          case atStart => exact ⟨0, Nat.zero_le _, rfl, by (have h := HOWN.out; simpa using h), by (have h := HK.out; simpa using h), hbi, hvz⟩
          case round =>
            obtain ⟨j, hj, rfl, hown, hKj, hbj, hvj⟩ := hrel
            have hjz := hbj.size
            have hxj := below_nextN hxr hbj hxr.size
            have hxjz := hxj.size
            have hrow := hown.row
            have hDl : (wantL gone (allSrc rt i ++ (recs.take j).map (srcR i))).length ≤ 64 * i + j := by
              refine Nat.le_trans (wantL_le _ _) ?_
              rw [List.length_append, List.length_map, List.length_take]
              omega
            obtain ⟨D, hD⟩ : ∃ D, wantL gone (allSrc rt i ++ (recs.take j).map (srcR i)) = D := ⟨_, rfl⟩
            rw [hD] at hown hKj hDl
            have HDD := Lib.hid hD
            have HOW := Lib.hid hown
            have HKJ := Lib.hid hKj
            clear hown hKj hD
            by_cases hjl : j < recs.length
            · obtain ⟨b7, o7, rfl, hb7, hc7⟩ := (HRI.out.below hxj).get hjl
              obtain ⟨g0, g1, g2⟩ := Rcd.cells3 hc7
              have hat := (HTAB.out.at_ j hjl).ok
              have hsl : 0 < recs[j].seq.length := by rw [hat.slen]; exact hcpos
              have hrl : 0 < recs[j].row.length := by rw [hat.len]; exact hcpos
              have hpos := (hat.cell 0 hcpos).pos hsl
              rw [withinB, Bool.and_eq_true, decide_eq_true_iff, decide_eq_true_iff] at hpos
              obtain ⟨b8, o8, hA8, hb8, hc8⟩ := ((HRI2.out recs[j] (List.getElem_mem hjl)).2.below hxj).get hsl
              obtain ⟨b9, o9, hA9, hb9, hc9⟩ := ((HRI2.out recs[j] (List.getElem_mem hjl)).1.below hxj).get hrl
              have s0 := hc8 0 _ rfl
              obtain ⟨y0, y1, y2⟩ := Val.cells3 hc9
              rw [hA8] at g1
              rw [hA9] at g0
              have hhd : recs[j].seq[0] = headS recs[j] := head_seq hsl
              have hhv : recs[j].row[0] = headV recs[j] := head_row hrl
              rw [hhd] at s0 hpos
              rw [hhv] at y0 y1 y2
              simp only [Nat.zero_mul, Nat.add_zero] at s0 y0 y1 y2
              have HREC := Lib.hid (wantL_rec (gone := gone) (allSrc rt i) i hjl)
              have hkey := HKEY.out j hjl
              obtain ⟨hd, hhe⟩ : ∃ q, headS recs[j] = q := ⟨_, rfl⟩
              obtain ⟨y, hy⟩ : ∃ q, headV recs[j] = q := ⟨_, rfl⟩
              obtain ⟨rl, hrle⟩ : ∃ q, recs[j].row.length = q := ⟨_, rfl⟩
              obtain ⟨sl, hsle⟩ : ∃ q, recs[j].seq.length = q := ⟨_, rfl⟩
              obtain ⟨cp, hcp⟩ : ∃ q, recs[j].cap = q := ⟨_, rfl⟩
              obtain ⟨sp, hsp⟩ : ∃ q, recs[j].scap = q := ⟨_, rfl⟩
              obtain ⟨dy, hdy⟩ : ∃ q, recs[j].day = q := ⟨_, rfl⟩
              rw [hhe] at s0 hpos
              rw [hy] at y0 y1 y2
              rw [hrle, hcp] at g0
              rw [hsle, hsp] at g1
              rw [hdy] at g2
              rw [hrle] at hrl
              rw [hsle] at hsl
              have hsrc : srcR i recs[j] = ⟨(i : Int), hd⟩ := by unfold srcR; rw [hhe]
              rw [hsrc, hy] at hkey
              have HKY := Lib.hid hkey
              have HSRC := Lib.hid hsrc
              have HY := Lib.hid (And.intro y0 (And.intro y1 y2))
              clear hc7 hc8 hc9 hat hhd hhv hA8 hA9 hhe hy hrle hsle hcp hsp hdy hsrc hkey y0 y1 y2
              go_upto_region 18 with (fail)
              refine abs_world (P := fun u => Code.wp _ _ _ _ u) (R := fun u => Blk u wr.heap.size 148 #[.slice (some ⟨b9, o9, none⟩) rl cp, .slice (some ⟨b8, o8, none⟩) sl sp, .int .i64 dy] ∧ Below wr.heap.size wr u) ⟨?_, ?_⟩ ?_
              · exact Blk.new _ _ _
              · exact belA
              rintro U0 ⟨hD, hbU0⟩
              have w1 := hD.cell 1
              simp only [List.getElem?_toArray, List.getElem?_cons_zero, List.getElem?_cons_succ] at w1
              replace s0 := (hbU0.cell (p := ⟨b8, o8, none⟩) (show b8 < wr.heap.size by omega)).trans s0
              have HD := Lib.hid hD
              have hDlt := hD.lt
              clear g0 g1 g2 hD
              go_upto_region 19 with (fail)
              refine abs_world (P := fun u => Code.wp _ _ _ _ u) (R := fun u => Blk u wr.heap.size 148 #[.slice (some ⟨b9, o9, none⟩) rl cp, .slice (some ⟨b8, o8, none⟩) sl sp, .int .i64 dy] ∧ Blk u U0.heap.size 68 #[.int .i64 i, .int .i64 hd] ∧ Below wr.heap.size wr u) ⟨?_, ?_, ?_⟩ ?_
              · exact HD.out.alloc _
              · exact Blk.new _ _ _
              · exact hbU0.alloc hbU0.size _
              rintro U ⟨hD, hS, hbU⟩
              have hSl := hS.lt
              have hUz := hbU.size
              have hyU := below_nextN hbj hbU hjz
              have v0 := hS.cell 0
              have v1 := hS.cell 1
              simp only [List.getElem?_toArray, List.getElem?_cons_zero, List.getElem?_cons_succ] at v0 v1
              have HD2 := Lib.hid hD
              have HS2 := Lib.hid hS
              obtain ⟨kl, hkl⟩ := src_key (a := (i : Int)) (b := hd) ⟨by omega, by omega⟩ ⟨by omega, by omega⟩
              have hlk : (Instr.lookup 156 (.map (some W1.heap.size)) (.agg #[.int .i64 i, .int .i64 hd]) false).run Tryz.prog U = .ok (.bool (decide (⟨(i : Int), hd⟩ ∈ gone))) U := by
                have h := (HMW.out.below hyU hMl).look src_keyed Tryz.underlying156 (zero_bool U) hkl
                have h2 := mapS_want (gone := gone) ⟨(i : Int), hd⟩
                unfold srcV at h2
                rw [h2] at h
                exact h
              have HOU := Lib.hid (HOW.out.below hbU (Nat.le_refl _))
              have HKU := Lib.hid (HKJ.out.below hbU (by omega))
              clear s0 hS hD w1
              cases hmem : decide ((⟨(i : Int), hd⟩ : Src) ∈ gone)
              · rw [hmem] at hlk
                have HNO : Hid (wantL gone (allSrc rt i ++ (recs.take (j + 1)).map (srcR i)) = D) := Lib.hid (by rw [HREC.out, HSRC.out, hmem, HDD.out]; simp)
                clear hmem
                go_wp2_with fail
                go_roundw
                case rel => exact ⟨j + 1, by omega, by go_num, by rw [HNO.out]; exact HOU.out, by rw [HNO.out]; exact HKU.out.mono (by omega), hyU, by omega⟩
                case measure => simp [intOf]; omega
              · rw [hmem] at hlk
                have HYES : Hid (wantL gone (allSrc rt i ++ (recs.take (j + 1)).map (srcR i)) = D ++ [⟨(i : Int), hd⟩]) := Lib.hid (by rw [HREC.out, HSRC.out, hmem, HDD.out]; simp)
                clear hmem
                go_upto_region 21 with (at_builtin; go_must (refine wpList_append_list _ rfl (.tmp 69) (.tmp 71) 64 rfl 68 i0 _ Src.cells 2 16 Tryz.underlying64 hi0 hz0 hz1 hz2 rfl (by omega) src_len src_one V.heap.size u14 D rfl (HOU.out.alloc _) _ _ _ [⟨(i : Int), hd⟩] rfl rfl (Blk.one (enc := Src.cells) (x := ⟨(i : Int), hd⟩) (Blk.new' rfl) (by simp)) (by simp; omega) (by simp [maxLen]; omega) (by simp; omega) ?_); intro v' w3 hown' hg' hat'; have HOWN' := Lib.hid hown'; clear hown')
                have hrlt := HOW.out.lt
                have hbw3 : Below V.heap.size wr w3 := Below.grown ((hbU.mono (by omega)).alloc (by omega) _) hg' (by simp; omega) hrow
                have hD3 := (HD2.out.alloc _).grown hg' (fun e => by have := hrlt _ e.symm; omega)
                have hS3 := (HS2.out.alloc _).grown hg' (fun e => by have := hrlt _ e.symm; omega)
                have hK3 := (HKU.out.alloc _).kept hg' (fun e => by have := hrow _ e.symm; omega)
                have hX3 := hbj.trans (hbw3.mono (by omega))
                have hz3 := hbw3.size
                obtain ⟨w4, hrun, hst, hg4⟩ := (hK3.drew).store src_keyed Tryz.underlying213 (by unfold maxLen; omega) hkl (y := valV y)
                unfold valV at hrun
                have a0 := hS3.cell 0
                have a1 := hS3.cell 1
                have a2 := hD3.cell 0
                simp only [List.getElem?_toArray, List.getElem?_cons_zero, List.getElem?_cons_succ] at a0 a1 a2
                obtain ⟨y0, y1, y2⟩ := HY.out
                have hb9' : b9 < V.heap.size := by have := hxr.size; omega
                replace y0 := (hbw3.cell (p := ⟨b9, o9, none⟩) hb9').trans y0
                replace y1 := (hbw3.cell (p := ⟨b9, o9 + 1, none⟩) hb9').trans y1
                replace y2 := (hbw3.cell (p := ⟨b9, o9 + 2, none⟩) hb9').trans y2
                have HST := Lib.hid hst
                have HG4 := Lib.hid hg4
                have hz4 : w3.heap.size ≤ w4.heap.size := hg4.size
                clear hg' hat' hD3 hS3 hK3 hst hg4 hlk v0 v1
                go_region
                all_goals trace_state
                clear hrun
                go_wp2_with fail
                go_roundw
                case rel => exact ⟨j + 1, by omega, by go_num, by rw [HYES.out]; exact HOWN'.out.drew.grown HG4.out hKl, by
                  rw [HYES.out]
                  exact HST.out _ (by have h := mapS_new (keyV rt) D ⟨(i : Int), hd⟩; unfold srcV keyV at h; rw [HKY.out] at h; exact h) (fun u hu => mapS_old hu), Below.grown (hX3.trans (Below.refl _ _).drew) HG4.out (by show X1.heap.size ≤ w3.heap.size; omega) (fun q e => by injection e with e; omega), by omega⟩
                case measure => simp [intOf]; omega
            · have hjl' : decide (j < recs.length) = false := by simpa using hjl
              obtain rfl : j = recs.length := by omega
              have HFIN : Hid (D = wantL gone (allSrc rt (i + 1))) := Lib.hid (by rw [← HDD.out]; exact HALL.out)
              clear hjl
              go_wp2_with fail
              go_roundw
              case rel => exact ⟨i + 1, by omega, by go_num, by rw [← HFIN.out]; exact HOW.out, by rw [← HFIN.out]; exact HKJ.out.mono (by omega), hbj, hvj⟩
              case measure => simp [intOf]; omega
        · have hlt' : decide (i < rt.length) = false := by simpa using hlt
          obtain rfl : i = rt.length := by omega
          obtain ⟨L, hL⟩ : ∃ L, wantL gone (allSrc rt rt.length) = L := ⟨_, rfl⟩
          have hLl : L.length ≤ 1000 := by have := wantL_le gone (allSrc rt rt.length); rw [hL] at this; omega
          have ho := HOWN.out
          have hkm := HK.out
          rw [hL] at ho hkm
          have HLE := Lib.hid hL
          have HO2 := Lib.hid ho
          have HKM2 := Lib.hid hkm
          have hKMl := hkm.lt
          have HKEYS : Hid (∀ s ∈ L, ∃ kl, Go.keyOf Tryz.prog 68 (srcV s) = some kl) := Lib.hid fun s hs => by
            rw [← hL] at hs
            exact HGK.out.key (by have h := (List.mem_filter.1 hs).2; simpa using h)
          obtain ⟨Y, rfl⟩ : ∃ Y : World, Y = wr := ⟨_, rfl⟩
          obtain ⟨r3, hr3⟩ : ∃ b, decide (seq < 1) = b := ⟨_, rfl⟩
          obtain ⟨r4, hr4⟩ : ∃ b, decide (1073741824 < seq) = b := ⟨_, rfl⟩
          obtain ⟨r5, hr5⟩ : ∃ b, decide (1073741824 < seq + (L.length : Int) - 1) = b := ⟨_, rfl⟩
          have HNIL : Hid ((!r3 && (!r4 && !r5)) = false → DelIs ts rt gone seq day []) := Lib.hid fun h => DelIs.no fun hd => by
            have h1 := hd.seqOk
            have h2 := hd.fit
            have e2 : (wantE rt gone).length = L.length := by rw [← HLE.out]; rfl
            have e0 : r3 = false := by rw [← hr3]; exact decide_eq_false (by omega)
            have e1 : r4 = false := by rw [← hr4]; exact decide_eq_false (by omega)
            have e3 : r5 = false := by rw [← hr5]; exact decide_eq_false (by omega)
            rw [e0, e1, e3] at h
            cases h
          obtain ⟨A5, c5, rfl, hc5, hs5, hA5⟩ := ho.slice src_len
          clear ho hkm hL HOWN HK hlt' hlt hall hs5 hA5
          cases r3
          case true => go_wp2_with fail
                       refine leaves_cons (f := 134) (args := #[]) (by simp) (by simp [go_sem]) ?_; refine (idle_RetDel _).mono ?_; rintro e u' w'' ⟨rfl, rfl, rfl⟩; refine ⟨_, results_tmp rfl _ _ _, ?_⟩
                       exact ⟨⟨none, 0, [], rfl, SliceIs.nil, HNIL.out rfl⟩, hxi⟩
          cases r4
          case true => go_wp2_with fail
                       refine leaves_cons (f := 134) (args := #[]) (by simp) (by simp [go_sem]) ?_; refine (idle_RetDel _).mono ?_; rintro e u' w'' ⟨rfl, rfl, rfl⟩; refine ⟨_, results_tmp rfl _ _ _, ?_⟩
                       exact ⟨⟨none, 0, [], rfl, SliceIs.nil, HNIL.out rfl⟩, hxi⟩
          have hq0 : 1 ≤ seq := by rw [decide_eq_false_iff_not] at hr3; omega
          have hq1 : seq ≤ 1073741824 := by rw [decide_eq_false_iff_not] at hr4; omega
          have hwr1 : IntKind.i64.wrap (seq + (L.length : Int)) = seq + (L.length : Int) := IntWalk.i64_in _ (by omega)
          have hwr2 : IntKind.i64.wrap (seq + (L.length : Int) - 1) = seq + (L.length : Int) - 1 := IntWalk.i64_in _ (by omega)
          cases r5
          case true => go_wp2_with fail
                       refine leaves_cons (f := 134) (args := #[]) (by simp) (by simp [go_sem]) ?_; refine (idle_RetDel _).mono ?_; rintro e u' w'' ⟨rfl, rfl, rfl⟩; refine ⟨_, results_tmp rfl _ _ _, ?_⟩
                       exact ⟨⟨none, 0, [], rfl, SliceIs.nil, HNIL.out rfl⟩, hxi⟩
          have hq2 : seq + (L.length : Int) ≤ 1073741825 := by rw [decide_eq_false_iff_not] at hr5; omega
          have HYES : Hid (∀ l', l'.Perm L → UpS l' → DelIs ts rt gone seq day (delL rt seq day l')) := Lib.hid fun l' hp hu => .inl ⟨DelOk.yes HVV.out ⟨hd0, hd1⟩ ⟨hq0, hq1⟩ (List.Perm.refl _) (by rw [HLE.out]; omega), l', (by rw [← HLE.out] at hp; exact hp), hu, rfl⟩
          rcases HO2.out.2 with ⟨hv, hz⟩ | ⟨g, cap, cur, hv, hgb, _, _⟩
          · injection hv with e1 e2 e3
            subst e1 e3
            have hL0 : L = [] := List.eq_nil_of_length_eq_zero hz
            have HL0 := Lib.hid hL0
            have HZ := Lib.hid hz
            clear hL0 e2 hz
            go_upto_region 27 with (go_at_call 75; (with_reducible refine (sort_ret_nilN L.length HZ.out _).mono ?_); rintro e w3 ⟨rfl, rfl⟩)
            clear hr3 hr4 hr5 hwr1 hwr2
            refine abs_world (P := fun u => Code.wp _ _ _ _ u) (R := fun u => Below Y.heap.size Y u) (Below.refl _ _) ?_
            rintro Z hbZ
            have hKZ := HKM2.out.below hbZ hKMl
            have hxZ := below_nextN hxi hbZ hxi.size
            obtain ⟨l', hl'⟩ : ∃ l' : List Src, l' = L := ⟨_, rfl⟩
            have hPZ : l'.Perm L := by rw [hl']
            have hUpZ : UpS l' := by rw [hl', HL0.out]; exact List.Pairwise.nil
            have hSZ : SliceIs Z Z.heap.size Src.cells 2 none l' := by rw [hl', HL0.out]; exact SliceIs.nil
            clear hl'
            have HKZ : Hid (MapH Tryz.prog 68 Z X1.heap.size (64 * rt.length) (mapS (keyV rt) L)) := Lib.hid hKZ
            have HSZ := Lib.hid hSZ
            have HPZ := Lib.hid hPZ
            have hl'L : l'.length = L.length := hPZ.length_eq
            have hlZ := hKZ.lt
            clear hKZ hSZ hPZ
            go_upto_region 29 with (fail)
            go_loopw [21, 99] (fun vo vi wr => ∃ i : Nat, i ≤ l'.length ∧ vi = .int .i64 i ∧ Owns wr Z.heap.size 90 Chg.cells 12 vo (delL rt seq day (l'.take i)) ∧ Below Z.heap.size Z wr) (fun _ vi _ => l'.length - (intOf vi).toNat)
            case atStart => exact ⟨0, Nat.zero_le _, rfl, Owns.nil, Below.refl _ _⟩
            case round =>
              obtain ⟨i, hi, rfl, hown, hbr⟩ := hrel
              have hwz := hbr.size
              have hxr := below_nextN hxZ hbr hxZ.size
              have HOWN := Lib.hid hown
              clear hown
              by_cases hlt : i < l'.length
              · exfalso
                have h := HPZ.out.length_eq
                rw [HL0.out] at h
                simp at h
                rw [h] at hlt
                simp at hlt
              · have hlt' : decide (i < l'.length) = false := by simpa using hlt
                obtain rfl : i = l'.length := by omega
                have ho := HOWN.out
                rw [List.take_length] at ho
                obtain ⟨A6, c6, rfl, hc6, hs6, _⟩ := ho.slice chg_len
                have HS6 := Lib.hid hs6
                clear ho hs6 HOWN
                go_wp2_with fail
                refine leaves_cons (f := 134) (args := #[]) (by simp) (by simp [go_sem]) ?_; refine (idle_RetDel _).mono ?_; rintro e u' w'' ⟨rfl, rfl, rfl⟩; refine ⟨_, results_tmp rfl _ _ _, ?_⟩
                exact ⟨⟨A6, c6, _, rfl, HS6.out, HYES.out l' HPZ.out hUpZ⟩, hxr⟩
          · injection hv with e1 e2 e3
            subst e1 e3
            go_upto_region 27 with (go_at_call 75; (with_reducible refine (sort_retN V.heap.size g c5 L.length L _ rfl HO2.out (by omega)).mono ?_); rintro e w3 ⟨rfl, l', hp, hso, hO3, hg3⟩; have HP := Lib.hid hp; have HSO := Lib.hid hso; have HO3 := Lib.hid hO3; have HG3 := Lib.hid hg3; clear hp hso hO3 hg3)
            clear hr3 hr4 hr5 hwr1 hwr2
            refine abs_world (P := fun u => Code.wp _ _ _ _ u) (R := fun u => Below w3.heap.size w3 u) (Below.refl _ _) ?_
            rintro Z hbZ
            have hgl := HO2.out.blk_lt
            have hxZ : Below w.heap.size w Z := below_nextN (Below.grown hxi HG3.out hxi.size (fun q e => by injection e with e; have := hxr.size; omega)) hbZ (by have := hxi.size; have := HG3.out.size; omega)
            have hKZ := (HKM2.out.kept HG3.out (fun e => by injection e with e; omega)).below hbZ (by have := HG3.out.size; omega)
            have hSZ : SliceIs Z Z.heap.size Src.cells 2 (some ⟨g, 0, none⟩) l' := (own_read (base := V.heap.size) (c := c5) (e := 68) src_len (by rw [HP.out.length_eq]; exact HO3.out)).next hbZ
            have hPZ := HP.out
            have hUpZ : UpS l' := HSO.out
            have HKZ : Hid (MapH Tryz.prog 68 Z X1.heap.size (64 * rt.length) (mapS (keyV rt) L)) := Lib.hid hKZ
            have HSZ := Lib.hid hSZ
            have HPZ := Lib.hid hPZ
            have hl'L : l'.length = L.length := hPZ.length_eq
            have hlZ := hKZ.lt
            clear hKZ hSZ hPZ
            go_upto_region 29 with (fail)
            go_loopw [21, 99] (fun vo vi wr => ∃ i : Nat, i ≤ l'.length ∧ vi = .int .i64 i ∧ Owns wr Z.heap.size 90 Chg.cells 12 vo (delL rt seq day (l'.take i)) ∧ Below Z.heap.size Z wr) (fun _ vi _ => l'.length - (intOf vi).toNat)
            case atStart => exact ⟨0, Nat.zero_le _, rfl, Owns.nil, Below.refl _ _⟩
            case round =>
              obtain ⟨i, hi, rfl, hown, hbr⟩ := hrel
              have hwz := hbr.size
              have hxr := below_nextN hxZ hbr hxZ.size
              have HOWN := Lib.hid hown
              clear hown
              by_cases hlt : i < l'.length
              · obtain ⟨b5, o5, he5, hb5, hc5⟩ := (HSZ.out.below hbr).get hlt
                injection he5 with he5
                injection he5 with h51 h52
                subst h51 h52
                obtain ⟨s0, s1⟩ := Src.cells2 hc5
                have hmem : l'[i] ∈ L := HPZ.out.mem_iff.1 (List.getElem_mem hlt)
                have hdl := delL_succ rt seq day hlt
                obtain ⟨⟨tb, sq⟩, hs⟩ : ∃ x, l'[i] = x := ⟨_, rfl⟩
                rw [hs] at s0 s1 hmem hdl
                simp only [Nat.zero_add] at s0 s1
                obtain ⟨kl, hkl⟩ := HKEYS.out _ hmem
                unfold srcV at hkl
                simp only at hkl
                obtain ⟨y, hy⟩ : ∃ y, keyS rt ⟨tb, sq⟩ = y := ⟨_, rfl⟩
                have hlook : ∀ u, MapH Tryz.prog 68 u X1.heap.size (64 * rt.length) (mapS (keyV rt) L) → (Instr.lookup 213 (.map (some X1.heap.size)) (.agg #[.int .i64 tb, .int .i64 sq]) false).run Tryz.prog u = .ok (.agg #[.int .i64 y.kind, .int .i64 y.num, .string y.text]) u := fun u hu => by
                  have h := hu.look src_keyed Tryz.underlying213 (zero_val u) hkl
                  have h2 := mapS_mem (g := keyV rt) hmem
                  unfold srcV at h2
                  rw [h2] at h
                  unfold keyV valV at h
                  rw [hy] at h
                  exact h
                obtain ⟨cd, hcd⟩ : ∃ x : Chg, x = ⟨3, seq + (i : Int), day, tb, none, 0, [], y, 0, ⟨0, 0, ⟨#[]⟩⟩⟩ := ⟨_, rfl⟩
                have HDL : Hid (delL rt seq day (l'.take (i + 1)) = delL rt seq day (l'.take i) ++ [cd]) := Lib.hid (by rw [hdl, hcd]; unfold delC; rw [hy])
                have HCD := Lib.hid hcd
                have HLK := Lib.hid hlook
                have hDl : (delL rt seq day (l'.take i)).length = i := by rw [delL_len, List.length_take]; omega
                obtain ⟨D, hD⟩ : ∃ D, delL rt seq day (l'.take i) = D := ⟨_, rfl⟩
                have ho := HOWN.out
                rw [hD] at ho hDl HDL
                obtain ⟨A6, c6, rfl, hc6, _, _⟩ := ho.slice chg_len
                rw [hDl] at ho
                have HO6 := Lib.hid ho
                have hwr3 : IntKind.i64.wrap (seq + (i : Int)) = seq + (i : Int) := IntWalk.i64_in _ (by omega)
                clear hc5 hs hmem hdl hkl hcd hlook hD ho HOWN hy
                go_upto_region 31 with (fail)
                refine abs_world (P := fun u => Code.wp _ _ _ _ u) (R := fun u => Blk u wr.heap.size 68 #[.int .i64 tb, .int .i64 sq] ∧ Below wr.heap.size wr u) ⟨?_, ?_⟩ ?_
                · first | exact Blk.new _ _ _ | exact Blk.new' rfl
                · exact belA
                rintro U ⟨hBU, hbU⟩
                have hUl := hBU.lt
                have v0 := hBU.cell 0
                have v1 := hBU.cell 1
                simp only [List.getElem?_toArray, List.getElem?_cons_zero, List.getElem?_cons_succ] at v0 v1
                have hyU := below_nextN hbr hbU hwz
                have hUz := hyU.size
                have HOU := Lib.hid (HO6.out.below hbU (Nat.le_refl _))
                have HMU := Lib.hid (HKZ.out.below hyU hlZ)
                have hrow := HOU.out.row
                have hrlt := HO6.out.lt
                have HBU := Lib.hid hBU
                clear s0 s1 hBU
                refine wp_region_held_drew (S := fun u => u.cell? ⟨wr.heap.size, 0, none⟩ = some (.int .i64 tb) ∧ u.cell? ⟨wr.heap.size, 1, none⟩ = some (.int .i64 sq) ∧ (Instr.lookup 213 (.map (some X1.heap.size)) (.agg #[.int .i64 tb, .int .i64 sq]) false).run Tryz.prog u = .ok (.agg #[.int .i64 y.kind, .int .i64 y.num, .string y.text]) u) (by kernel_rfl) ⟨v0, v1, HLK.out _ HMU.out.drew⟩ (fun hHeld => ?_)
                refine tkH 0 hHeld ?_ (hQ := by exact fun c a w h => panicD (d := 104) (res_del (by decide)) c a w h)
                refine tkH 1 hHeld ?_ (hQ := by exact fun c a w h => panicD (d := 105) (res_del (by decide)) c a w h)
                refine tkH 2 hHeld ?_ (hQ := by exact fun c a w h => panicD (d := 106) (res_del (by decide)) c a w h)
                refine tkH 3 hHeld ?_ (hQ := by exact fun c a w h => panicD (d := 107) (res_del (by decide)) c a w h)
                refine tkH 4 hHeld ?_ (hQ := by exact fun c a w h => panicD (d := 108) (res_del (by decide)) c a w h)
                refine tkH 5 hHeld ?_ (hQ := by exact fun c a w h => panicD (d := 109) (res_del (by decide)) c a w h)
                refine tkH 6 hHeld ?_ (hQ := by exact fun c a w h => panicD (d := 110) (res_del (by decide)) c a w h)
                refine tkH 7 hHeld ?_ (hQ := by exact fun c a w h => panicD (d := 111) (res_del (by decide)) c a w h)
                refine tkH 8 hHeld ?_ (hQ := by exact fun c a w h => panicD (d := 112) (res_del (by decide)) c a w h)
                refine tkH 9 hHeld ?_ (hQ := by exact fun c a w h => panicD (d := 113) (res_del (by decide)) c a w h)
                refine tkH 10 hHeld ?_ (hQ := by exact fun c a w h => panicD (d := 114) (res_del (by decide)) c a w h)
                refine wpAnyH_ready (rs := [11]) (by kernel_rfl) (by simp) ?_
                refine AllReadyH.cons rfl (fun K hK => ?_) AllReadyH.nil
                go_simp
                refine hK.out _ _ ⟨by go_simp, by go_simp, HLK.out _ (HMU.out.drew.alloc _)⟩ (fun hHeld => ?_)
                clear hK K
                (try simp only [Act.put, List.getElem_toArray, List.getElem_cons_zero, List.getElem_cons_succ, List.setIfInBounds_toArray, List.set_cons_zero, List.set_cons_succ])
                refine wpAnyH_ready (rs := [12]) (by kernel_rfl) (by simp) ?_
                refine AllReadyH.cons rfl (fun K hK => ?_) AllReadyH.nil
                (refine step_append_list _ rfl (.tmp 104) (.tmp 115) 38 rfl 90 j0 _ Chg.cells 12 128 Tryz.underlying38 hj0 hy0 hy1 hy2 rfl (by omega) chg_len chg_one Z.heap.size (.slice A6 i c6) D rfl (HOU.out.drew.alloc _) _ _ _ [cd] rfl rfl (Blk.one (enc := Chg.cells) (x := cd) (by rw [HCD.out]; exact Blk.new' rfl) (by simp)) (by simp; omega) (by simp [maxLen]; omega) (by simp; omega) ?_; intro v6 w6 hown' hg' hat')
                have HOWN' := Lib.hid hown'
                have hb6 : Below Z.heap.size U w6 := Below.grown (((Below.refl _ _).drew).alloc (by show Z.heap.size ≤ U.heap.size; omega) _) hg' (by simp; omega) hrow
                have hblk : Blk w6 wr.heap.size 68 #[.int .i64 tb, .int .i64 sq] := (HBU.out.drew.alloc _).grown hg' (fun e => by have := hrlt _ e.symm; omega)
                have b0 := hblk.cell 0
                have b1 := hblk.cell 1
                simp only [List.getElem?_toArray, List.getElem?_cons_zero, List.getElem?_cons_succ] at b0 b1
                clear hown' hg' hat' hblk
                refine hK.out _ _ ⟨b0, b1, HLK.out _ (HMU.out.below hb6 (by omega))⟩ (fun hHeld => ?_)
                clear hK K b0 b1 v0 v1
                (try simp only [Act.put, List.getElem_toArray, List.getElem_cons_zero, List.getElem_cons_succ, List.setIfInBounds_toArray, List.set_cons_zero, List.set_cons_succ])
                refine tkH 13 hHeld ?_ (hQ := by exact fun c a w h => panicD (d := 21) (res_del (by decide)) c a w h)
                refine wpAnyH_done (by kernel_rfl) ?_ _
                clear hHeld
                go_wp2_with fail
                go_roundw
                case rel => exact ⟨i + 1, by omega, by go_num, by rw [HDL.out]; exact HOWN'.out, hyU.trans hb6⟩
                case measure => simp [intOf]; omega
              · have hlt' : decide (i < l'.length) = false := by simpa using hlt
                obtain rfl : i = l'.length := by omega
                have ho := HOWN.out
                rw [List.take_length] at ho
                obtain ⟨A6, c6, rfl, hc6, hs6, _⟩ := ho.slice chg_len
                have HS6 := Lib.hid hs6
                clear ho hs6 HOWN
                go_wp2_with fail
                refine leaves_cons (f := 134) (args := #[]) (by simp) (by simp [go_sem]) ?_; refine (idle_RetDel _).mono ?_; rintro e u' w'' ⟨rfl, rfl, rfl⟩; refine ⟨_, results_tmp rfl _ _ _, ?_⟩
                exact ⟨⟨A6, c6, _, rfl, HS6.out, HYES.out l' HPZ.out hUpZ⟩, hxr⟩
end Go.Proofs.YtlpgmdhnjckplaaGreat
