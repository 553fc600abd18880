/-
  Which holds block a version on a day, in the program.
-/
import Derived.Test.YtoleifehijccmaaCover
namespace Go.Proofs.Ytoleifehijccmaa
set_option linter.unusedVariables false
open Go.RowKit

/-- The numbers of the first m holds that are active on the day and cover the version. -/
noncomputable def blockTo (hs : List Hold) (l : List Link) (t c : Int) (own : List Ident) (day : Int) (m : Nat) : List Int :=
  ((List.range m).filter (fun i => match hs[i]? with | some x => activeOn x day && coversB x l t c own | none => false)).map (fun i : Nat => (i : Int))
theorem blockTo_len (hs : List Hold) (l : List Link) (t c : Int) (own : List Ident) (day : Int) (m : Nat) : (blockTo hs l t c own day m).length ≤ m := by
  unfold blockTo
  rw [List.length_map]
  exact Nat.le_trans (List.length_filter_le _ _) (by simp)
theorem blockTo_step {hs : List Hold} {l : List Link} {t c : Int} {own : List Ident} {day : Int} {m : Nat} (h : m < hs.length) : blockTo hs l t c own day (m + 1) = if (activeOn hs[m] day && coversB hs[m] l t c own) = true then blockTo hs l t c own day m ++ [(m : Int)] else blockTo hs l t c own day m := by
  unfold blockTo
  rw [List.range_succ, List.filter_append]
  split
  · rename_i hh
    rw [List.filter_cons_of_pos (by rw [List.getElem?_eq_getElem h]; exact hh)]
    simp
  · rename_i hh
    rw [List.filter_cons_of_neg (by rw [List.getElem?_eq_getElem h]; exact hh)]
    simp
noncomputable def blocking (hs : List Hold) (l : List Link) (t c : Int) (own : List Ident) (day : Int) : List Int :=
  if (validHolds hs && validLinks l) = true then blockTo hs l t c own day hs.length else []
theorem hold_ValidB (A : Option Addr) (c n : Nat) (l : List Hold) (w : World) (hl : SliceIs w w.heap.size Hold.cells 9 A l) (hln : l.length = n) (hn : n ≤ 1000000) (hs : SaneH l) {r : Bool} (hr : validHolds l = r) :
    Calls Try.prog 30 #[.slice A n c] w fun e w' => e = .returned (.bool r) ∧ Below w.heap.size w w' := by
  subst hln hr
  exact hold_Valid A c l w hl hn hs
theorem hold_ActiveB (x : Hold) (day : Int) (w : World) {r : Bool} (hr : activeOn x day = r) :
    Calls Try.prog 62 #[.agg #[.int .i64 x.table, .int .i64 x.column, .string x.who.ns, .int .i64 x.who.val.kind, .int .i64 x.who.val.num, .string x.who.val.text, .int .i64 x.seq, .int .i64 x.day0, .int .i64 x.day1], .int .i64 day] w fun e w' => e = .returned (.bool r) ∧ Ext w w' := by
  subst hr
  exact hold_Active x day w
theorem Hold.blk {w : World} {g : Nat} {x : Hold} (h : Blk w g 52 x.cells.toArray) :
    w.cell? ⟨g, 0, none⟩ = some (.int .i64 x.table) ∧ w.cell? ⟨g, 1, none⟩ = some (.int .i64 x.column) ∧ (w.cell? ⟨g, 2, none⟩ = some (.string x.who.ns) ∧ w.cell? ⟨g, 3, none⟩ = some (.int .i64 x.who.val.kind) ∧ w.cell? ⟨g, 4, none⟩ = some (.int .i64 x.who.val.num) ∧ w.cell? ⟨g, 5, none⟩ = some (.string x.who.val.text)) ∧ w.cell? ⟨g, 6, none⟩ = some (.int .i64 x.seq) ∧ w.cell? ⟨g, 7, none⟩ = some (.int .i64 x.day0) ∧ w.cell? ⟨g, 8, none⟩ = some (.int .i64 x.day1) :=
  ⟨h.cell 0, h.cell 1, ⟨h.cell 2, h.cell 3, h.cell 4, h.cell 5⟩, h.cell 6, h.cell 7, h.cell 8⟩
theorem Owned.blk {w : World} {g : Nat} {a b c d e f g' h : Value} (k : Blk w g 58 #[a, b, c, d, e, f, g', h]) :
    w.cell? ⟨g, 0, none⟩ = some a ∧ w.cell? ⟨g, 1, none⟩ = some b ∧ w.cell? ⟨g, 2, none⟩ = some c ∧ w.cell? ⟨g, 3, none⟩ = some d ∧ w.cell? ⟨g, 4, none⟩ = some e ∧ w.cell? ⟨g, 5, none⟩ = some f ∧ w.cell? ⟨g, 6, none⟩ = some g' ∧ w.cell? ⟨g, 7, none⟩ = some h :=
  ⟨k.cell 0, k.cell 1, k.cell 2, k.cell 3, k.cell 4, k.cell 5, k.cell 6, k.cell 7⟩
theorem idle_Blocking (w : World) : CallsD Try.prog 61 #[] .returning w fun e u' w' => e = .returned (.tuple #[]) ∧ u' = .returning ∧ w' = w := by
  refine callsD_of_wpS Try.func61 rfl fun c₀ cs hu => ?_
  apply wpS_region
  cases c₀
  simp_all [wpOpsS, go_sem, recoverD, Try.ntmps61, bodyPostS, results, Try.results61]
set_option maxRecDepth 100000 in
set_option maxHeartbeats 2000000 in
theorem hold_Blocking (A : Option Addr) (c n : Nat) (hs : List Hold) (AL : Option Addr) (cL nL : Nat) (l : List Link) (t col sq rec dy : Int) (A' : Option Addr) (c' n' : Nat) (own : List Ident) (nul lst : Bool) (day : Int) (w : World)
    (hh : SliceIs w w.heap.size Hold.cells 9 A hs) (hnh : hs.length = n) (hn32 : n ≤ 1000000) (hsh : SaneH hs) (hl : SliceIs w w.heap.size Link.cells 10 AL l) (hnl : l.length = nL) (hnl' : nL ≤ 1000000) (hsl : Sane l) (ho : SliceIs w w.heap.size Ident.cells 4 A' own) (hon : own.length = n') (hn' : n' ≤ 1000000) :
    Calls Try.prog 31 #[.slice A n c, .slice AL nL cL, .agg #[.int .i64 t, .int .i64 col, .int .i64 sq, .int .i64 rec, .int .i64 dy, .slice A' n' c', .bool nul, .bool lst], .int .i64 day] w fun e w' =>
      (∃ v, e = .returned v ∧ Owns w' w.heap.size 3 intCells 1 v (blocking hs l t col own day)) ∧ Below w.heap.size w w' := by
  obtain ⟨i0, hi0, hz0, hz1, hz2⟩ := info_parts infoIntT
  have HH := Lib.hid hh
  have HL := Lib.hid hl
  have HO := Lib.hid ho
  have HSH := Lib.hid hsh
  have HSL := Lib.hid hsl
  clear hh hl ho hsh hsl
  cases hvh : validHolds hs
  · have HVH := Lib.hid hvh
    clear hvh
    go_enter_defers Try.func31, Try.ntmps31
    go_wp2_with (first
                | (go_at_call 30; (with_reducible refine (hold_ValidB A c n hs _ ((HH.out.below (B := w.heap.size) (by repeat (first | with_reducible exact Below.refl _ _ | with_reducible assumption | (with_reducible refine Below.setCell ?_ ?_ _; rotate_left; focus (first | exact Nat.le_refl _ | exact Nat.le_add_right _ _ | (simp; done) | (simp; omega) | omega)) | (with_reducible refine Below.alloc ?_ ?_ _; rotate_left; focus (first | exact Nat.le_refl _ | exact Nat.le_add_right _ _ | (simp; done) | (simp; omega) | omega)) | with_reducible refine Below.drew ?_ | with_reducible refine below_drewN ?_ _ | (with_reducible refine below_nextN ?_ (by with_reducible assumption) ?_; rotate_left; focus (first | exact Nat.le_refl _ | exact Nat.le_add_right _ _ | (simp; done) | (simp; omega) | omega))))).mono (by first | exact Nat.le_refl _ | exact Nat.le_add_right _ _ | assumption | (simp; done) | (simp; omega) | omega)) hnh hn32 HSH.out HVH.out).mono ?_); rintro e w1 ⟨rfl, hb1⟩; have hx1 : Below w.heap.size w w1 := below_nextN (by repeat (first | with_reducible exact Below.refl _ _ | with_reducible assumption | (with_reducible refine Below.setCell ?_ ?_ _; rotate_left; focus (first | exact Nat.le_refl _ | exact Nat.le_add_right _ _ | (simp; done) | (simp; omega) | omega)) | (with_reducible refine Below.alloc ?_ ?_ _; rotate_left; focus (first | exact Nat.le_refl _ | exact Nat.le_add_right _ _ | (simp; done) | (simp; omega) | omega)) | with_reducible refine Below.drew ?_ | with_reducible refine below_drewN ?_ _ | (with_reducible refine below_nextN ?_ (by with_reducible assumption) ?_; rotate_left; focus (first | exact Nat.le_refl _ | exact Nat.le_add_right _ _ | (simp; done) | (simp; omega) | omega)))) hb1 (by first | exact Nat.le_refl _ | exact Nat.le_add_right _ _ | assumption | (simp; done) | (simp; omega) | omega); obtain ⟨k1, f1, z1⟩ := keepB hb1 w.heap.size (by first | assumption | (simp; done) | (simp; omega) | omega))
                | (go_at_call 12; (with_reducible refine (identity_ValidN AL cL nL l _ ((HL.out.below hx1).mono hx1.size) hnl hnl' HSL.out HVL.out).mono ?_); rintro e w2 ⟨rfl, hb2⟩; have hx2 : Below w.heap.size w w2 := below_nextN hx1 hb2 hx1.size))
    refine leaves_cons (f := 61) (args := #[]) (by simp) (by simp [go_sem]) ?_; refine (idle_Blocking _).mono ?_; rintro e u' w'' ⟨rfl, rfl, rfl⟩; refine ⟨_, results_tmp rfl _ _ _, ?_⟩
    refine ⟨⟨_, rfl, ?_⟩, hx1⟩
    rw [blocking, HVH.out]
    exact Owns.nil
  cases hvl : validLinks l
  · have HVH := Lib.hid hvh
    have HVL := Lib.hid hvl
    clear hvh hvl
    go_enter_defers Try.func31, Try.ntmps31
    go_wp2_with (first
                | (go_at_call 30; (with_reducible refine (hold_ValidB A c n hs _ ((HH.out.below (B := w.heap.size) (by repeat (first | with_reducible exact Below.refl _ _ | with_reducible assumption | (with_reducible refine Below.setCell ?_ ?_ _; rotate_left; focus (first | exact Nat.le_refl _ | exact Nat.le_add_right _ _ | (simp; done) | (simp; omega) | omega)) | (with_reducible refine Below.alloc ?_ ?_ _; rotate_left; focus (first | exact Nat.le_refl _ | exact Nat.le_add_right _ _ | (simp; done) | (simp; omega) | omega)) | with_reducible refine Below.drew ?_ | with_reducible refine below_drewN ?_ _ | (with_reducible refine below_nextN ?_ (by with_reducible assumption) ?_; rotate_left; focus (first | exact Nat.le_refl _ | exact Nat.le_add_right _ _ | (simp; done) | (simp; omega) | omega))))).mono (by first | exact Nat.le_refl _ | exact Nat.le_add_right _ _ | assumption | (simp; done) | (simp; omega) | omega)) hnh hn32 HSH.out HVH.out).mono ?_); rintro e w1 ⟨rfl, hb1⟩; have hx1 : Below w.heap.size w w1 := below_nextN (by repeat (first | with_reducible exact Below.refl _ _ | with_reducible assumption | (with_reducible refine Below.setCell ?_ ?_ _; rotate_left; focus (first | exact Nat.le_refl _ | exact Nat.le_add_right _ _ | (simp; done) | (simp; omega) | omega)) | (with_reducible refine Below.alloc ?_ ?_ _; rotate_left; focus (first | exact Nat.le_refl _ | exact Nat.le_add_right _ _ | (simp; done) | (simp; omega) | omega)) | with_reducible refine Below.drew ?_ | with_reducible refine below_drewN ?_ _ | (with_reducible refine below_nextN ?_ (by with_reducible assumption) ?_; rotate_left; focus (first | exact Nat.le_refl _ | exact Nat.le_add_right _ _ | (simp; done) | (simp; omega) | omega)))) hb1 (by first | exact Nat.le_refl _ | exact Nat.le_add_right _ _ | assumption | (simp; done) | (simp; omega) | omega); obtain ⟨k1, f1, z1⟩ := keepB hb1 w.heap.size (by first | assumption | (simp; done) | (simp; omega) | omega))
                | (go_at_call 12; (with_reducible refine (identity_ValidN AL cL nL l _ ((HL.out.below hx1).mono hx1.size) hnl hnl' HSL.out HVL.out).mono ?_); rintro e w2 ⟨rfl, hb2⟩; have hx2 : Below w.heap.size w w2 := below_nextN hx1 hb2 hx1.size))
    refine leaves_cons (f := 61) (args := #[]) (by simp) (by simp [go_sem]) ?_; refine (idle_Blocking _).mono ?_; rintro e u' w'' ⟨rfl, rfl, rfl⟩; refine ⟨_, results_tmp rfl _ _ _, ?_⟩
    refine ⟨⟨_, rfl, ?_⟩, hx2⟩
    rw [blocking, HVH.out, HVL.out]
    exact Owns.nil
  have hn := hvh
  have hok : ∀ x ∈ hs, holdOk x = true := by
    simp only [validHolds, Bool.and_eq_true, List.all_eq_true] at hvh
    exact hvh.2
  have hle : hs.length ≤ 32 := by
    simp only [validHolds, Bool.and_eq_true, decide_eq_true_eq] at hvh
    exact hvh.1
  have HOK := Lib.hid hok
  have HVH := Lib.hid hvh
  have HVL := Lib.hid hvl
  clear hvh hvl hok hn
  go_enter_defers Try.func31, Try.ntmps31
  go_upto_region 4 with (first
                        | (go_at_call 30; (with_reducible refine (hold_ValidB A c n hs _ ((HH.out.below (B := w.heap.size) (by repeat (first | with_reducible exact Below.refl _ _ | with_reducible assumption | (with_reducible refine Below.setCell ?_ ?_ _; rotate_left; focus (first | exact Nat.le_refl _ | exact Nat.le_add_right _ _ | (simp; done) | (simp; omega) | omega)) | (with_reducible refine Below.alloc ?_ ?_ _; rotate_left; focus (first | exact Nat.le_refl _ | exact Nat.le_add_right _ _ | (simp; done) | (simp; omega) | omega)) | with_reducible refine Below.drew ?_ | with_reducible refine below_drewN ?_ _ | (with_reducible refine below_nextN ?_ (by with_reducible assumption) ?_; rotate_left; focus (first | exact Nat.le_refl _ | exact Nat.le_add_right _ _ | (simp; done) | (simp; omega) | omega))))).mono (by first | exact Nat.le_refl _ | exact Nat.le_add_right _ _ | assumption | (simp; done) | (simp; omega) | omega)) hnh hn32 HSH.out HVH.out).mono ?_); rintro e w1 ⟨rfl, hb1⟩; have hx1 : Below w.heap.size w w1 := below_nextN (by repeat (first | with_reducible exact Below.refl _ _ | with_reducible assumption | (with_reducible refine Below.setCell ?_ ?_ _; rotate_left; focus (first | exact Nat.le_refl _ | exact Nat.le_add_right _ _ | (simp; done) | (simp; omega) | omega)) | (with_reducible refine Below.alloc ?_ ?_ _; rotate_left; focus (first | exact Nat.le_refl _ | exact Nat.le_add_right _ _ | (simp; done) | (simp; omega) | omega)) | with_reducible refine Below.drew ?_ | with_reducible refine below_drewN ?_ _ | (with_reducible refine below_nextN ?_ (by with_reducible assumption) ?_; rotate_left; focus (first | exact Nat.le_refl _ | exact Nat.le_add_right _ _ | (simp; done) | (simp; omega) | omega)))) hb1 (by first | exact Nat.le_refl _ | exact Nat.le_add_right _ _ | assumption | (simp; done) | (simp; omega) | omega); obtain ⟨k1, f1, z1⟩ := keepB hb1 w.heap.size (by first | assumption | (simp; done) | (simp; omega) | omega))
                        | (go_at_call 12; (with_reducible refine (identity_ValidN AL cL nL l _ ((HL.out.below hx1).mono hx1.size) hnl hnl' HSL.out HVL.out).mono ?_); rintro e w2 ⟨rfl, hb2⟩; have hx2 : Below w.heap.size w w2 := below_nextN hx1 hb2 hx1.size))
  refine abs_world (P := fun u => Code.wp _ _ _ _ u) (R := fun u => Blk u w.heap.size 58 #[.int .i64 t, .int .i64 col, .int .i64 sq, .int .i64 rec, .int .i64 dy, .slice A' n' c', .bool nul, .bool lst] ∧ Below w.heap.size w u) ⟨?_, ?_⟩ ?_
  · exact ((Blk.new _ _ _).below hb1 (by simp)).below hb2 z1
  · exact hx2
  clear k1 f1 z1 hb1 hb2 hx1 hx2
  rintro W ⟨hB, hbW⟩
  have hzW := hB.lt
  have HB := Lib.hid hB
  clear hB
  go_wp2_with fail
  go_loopw [9, 22] (fun vo vi wr => ∃ m : Nat, m ≤ hs.length ∧ vi = .int .i64 m ∧ Owns wr W.heap.size 3 intCells 1 vo (blockTo hs l t col own day m) ∧ Below W.heap.size W wr) (fun _ vi _ => hs.length - (intOf vi).toNat)
  case atStart => exact ⟨0, Nat.zero_le _, rfl, Owns.nil, Below.refl _ _⟩
  case round =>
    obtain ⟨m, hm, rfl, hown, hbr⟩ := hrel
    have hwz := hbr.size
    have hxr := below_nextN hbW hbr hbW.size
    have hzr := hxr.size
    by_cases hlt : m < hs.length
    · obtain ⟨b5, o5, rfl, hb5, hc5⟩ := (HH.out.below hxr).get hlt
      obtain ⟨h0, h1, ⟨h2, h3, h4, h5⟩, h6, h7, h8⟩ := Hold.cells9 hc5
      obtain ⟨q0, q1, q2, q3, q4, q5, q6, q7⟩ := Owned.blk (HB.out.below hbr hzW)
      have hsm := HSH.out hs[m] (List.getElem_mem hlt)
      have hsq : hs[m].seq ≤ 9223372036854775807 := by
        obtain ⟨_, _, _, _, _, _, h, _⟩ := (holdOk_iff _).1 (HOK.out hs[m] (List.getElem_mem hlt))
        omega
      have HOWN := Lib.hid hown
      have hrow := hown.row
      have hbl := blockTo_len hs l t col own day m
      clear hc5 hown
      cases ha : activeOn hs[m] day
      · have HA := Lib.hid ha
        clear ha
        go_wp2_with (go_at_call 62; (with_reducible refine (hold_ActiveB hs[m] day _ HA.out).mono ?_); rintro e w1 ⟨rfl, hb1⟩; have hx1 : Below wr.heap.size wr w1 := below_nextN (by repeat (first | with_reducible exact Below.refl _ _ | with_reducible assumption | (with_reducible refine Below.setCell ?_ ?_ _; rotate_left; focus (first | exact Nat.le_refl _ | exact Nat.le_add_right _ _ | (simp; done) | (simp; omega) | omega)) | (with_reducible refine Below.alloc ?_ ?_ _; rotate_left; focus (first | exact Nat.le_refl _ | exact Nat.le_add_right _ _ | (simp; done) | (simp; omega) | omega)) | with_reducible refine Below.drew ?_ | with_reducible refine below_drewN ?_ _ | (with_reducible refine below_nextN ?_ (by with_reducible assumption) ?_; rotate_left; focus (first | exact Nat.le_refl _ | exact Nat.le_add_right _ _ | (simp; done) | (simp; omega) | omega)))) hb1.1 (by first | exact Nat.le_refl _ | exact Nat.le_add_right _ _ | assumption | (simp; done) | (simp; omega) | omega))
        go_roundw
        case rel => exact ⟨m + 1, by omega, by go_num, by rw [blockTo_step hlt, HA.out]; exact HOWN.out.below hx1 (Nat.le_refl _), below_nextN hbr hx1 hwz⟩
        case measure => simp [intOf]; omega
      · cases hcv : coversB hs[m] l t col own
        · have HA := Lib.hid ha
          have HCV := Lib.hid hcv
          clear ha hcv
          go_wp2_with (first
                      | (go_at_call 62; (with_reducible refine (hold_ActiveB hs[m] day _ HA.out).mono ?_); rintro e w1 ⟨rfl, hb1⟩; have hx1 : Below wr.heap.size wr w1 := below_nextN (by repeat (first | with_reducible exact Below.refl _ _ | with_reducible assumption | (with_reducible refine Below.setCell ?_ ?_ _; rotate_left; focus (first | exact Nat.le_refl _ | exact Nat.le_add_right _ _ | (simp; done) | (simp; omega) | omega)) | (with_reducible refine Below.alloc ?_ ?_ _; rotate_left; focus (first | exact Nat.le_refl _ | exact Nat.le_add_right _ _ | (simp; done) | (simp; omega) | omega)) | with_reducible refine Below.drew ?_ | with_reducible refine below_drewN ?_ _ | (with_reducible refine below_nextN ?_ (by with_reducible assumption) ?_; rotate_left; focus (first | exact Nat.le_refl _ | exact Nat.le_add_right _ _ | (simp; done) | (simp; omega) | omega)))) hb1.1 (by first | exact Nat.le_refl _ | exact Nat.le_add_right _ _ | assumption | (simp; done) | (simp; omega) | omega); obtain ⟨k1, f1, z1⟩ := keepE hb1 wr.heap.size (by first | assumption | (simp; done) | (simp; omega) | omega); have ko1 := (keepB hx1 w.heap.size (by omega)).1; have hy1 := below_nextN hxr hx1 hzr; have hzz1 := hx1.size)
                      | (go_at_call 63; (with_reducible refine (hold_covers hs[m] AL cL nL l t col sq rec dy A' c' n' own nul lst _ ((HL.out.below hy1).mono hy1.size) hnl hnl' HSL.out hsm hsq ((HO.out.below hy1).mono hy1.size) hon hn' HCV.out).mono ?_); rintro e w2 ⟨rfl, hb2⟩; have hx2 : Below wr.heap.size wr w2 := below_nextN hx1 hb2 hx1.size; have hzz2 := hx2.size))
          go_roundw
          case rel => exact ⟨m + 1, by omega, by go_num, by rw [blockTo_step hlt, HA.out, HCV.out]; exact HOWN.out.below hx2 (Nat.le_refl _), below_nextN hbr hx2 hwz⟩
          case measure => simp [intOf]; omega
        · have HA := Lib.hid ha
          have HCV := Lib.hid hcv
          clear ha hcv
          go_upto_region 9 with (first
                                | (go_at_call 62; (with_reducible refine (hold_ActiveB hs[m] day _ HA.out).mono ?_); rintro e w1 ⟨rfl, hb1⟩; have hx1 : Below wr.heap.size wr w1 := below_nextN (by repeat (first | with_reducible exact Below.refl _ _ | with_reducible assumption | (with_reducible refine Below.setCell ?_ ?_ _; rotate_left; focus (first | exact Nat.le_refl _ | exact Nat.le_add_right _ _ | (simp; done) | (simp; omega) | omega)) | (with_reducible refine Below.alloc ?_ ?_ _; rotate_left; focus (first | exact Nat.le_refl _ | exact Nat.le_add_right _ _ | (simp; done) | (simp; omega) | omega)) | with_reducible refine Below.drew ?_ | with_reducible refine below_drewN ?_ _ | (with_reducible refine below_nextN ?_ (by with_reducible assumption) ?_; rotate_left; focus (first | exact Nat.le_refl _ | exact Nat.le_add_right _ _ | (simp; done) | (simp; omega) | omega)))) hb1.1 (by first | exact Nat.le_refl _ | exact Nat.le_add_right _ _ | assumption | (simp; done) | (simp; omega) | omega); obtain ⟨k1, f1, z1⟩ := keepE hb1 wr.heap.size (by first | assumption | (simp; done) | (simp; omega) | omega); have ko1 := (keepB hx1 w.heap.size (by omega)).1; have hy1 := below_nextN hxr hx1 hzr; have hzz1 := hx1.size)
                                | (go_at_call 63; (with_reducible refine (hold_covers hs[m] AL cL nL l t col sq rec dy A' c' n' own nul lst _ ((HL.out.below hy1).mono hy1.size) hnl hnl' HSL.out hsm hsq ((HO.out.below hy1).mono hy1.size) hon hn' HCV.out).mono ?_); rintro e w2 ⟨rfl, hb2⟩; have hx2 : Below wr.heap.size wr w2 := below_nextN hx1 hb2 hx1.size; have hzz2 := hx2.size))
          have hO2 : Owns (w2.alloc (.cells #[.int .i64 (m : Int)] 3)) W.heap.size 3 intCells 1 u9 (blockTo hs l t col own day m) := (HOWN.out.below hx2 (Nat.le_refl _)).alloc _
          have hone : SliceIs (w2.alloc (.cells #[.int .i64 (m : Int)] 3)) (w2.alloc (.cells #[.int .i64 (m : Int)] 3)).heap.size intCells 1 (some ⟨w2.heap.size, 0, none⟩) [(m : Int)] := Blk.one (enc := intCells) (x := (m : Int)) (Blk.new' rfl) (by simp)
          have HO2 := Lib.hid hO2
          have HONE := Lib.hid hone
          clear hO2 hone
          go_wp2_with (at_builtin; go_must ((refine wpList_append_list _ rfl (.tmp 36) (.tmp 38) 35 rfl 3 i0 _ intCells 1 8 Try.underlying35 hi0 hz0 hz1 hz2 rfl (by omega) int_len int_one W.heap.size u9 (blockTo hs l t col own day m) rfl HO2.out _ _ _ [(m : Int)] rfl rfl HONE.out (by simp; omega) (by simp [maxLen]; omega) (by simp; omega) ?_); intro v' w3 hown' hg' hat'; have HOWN' := Lib.hid hown'; clear hown'; have hbel : Below W.heap.size W w3 := Below.grown ((below_nextN hbr hx2 hwz).alloc (by omega) _) hg' (by simp; omega) (fun q e => by have := hrow q e; omega)))
          go_roundw
          case rel => exact ⟨m + 1, by omega, by go_num, by rw [blockTo_step hlt, HA.out, HCV.out]; exact HOWN'.out, hbel⟩
          case measure => simp [intOf]; omega
    · have hlt' : decide (m < hs.length) = false := by simpa using hlt
      obtain rfl : m = hs.length := by omega
      go_wp2_with fail
      refine leaves_cons (f := 61) (args := #[]) (by simp) (by simp [go_sem]) ?_; refine (idle_Blocking _).mono ?_; rintro e u' w'' ⟨rfl, rfl, rfl⟩; refine ⟨_, results_tmp rfl _ _ _, ?_⟩
      refine ⟨⟨_, rfl, ?_⟩, hxr⟩
      rw [blocking, HVH.out, HVL.out]
      exact hown.mono hbW.size
end Go.Proofs.Ytoleifehijccmaa
