/-
  Until when holds block a version, in the program.
-/
import Derived.Test.YtoleifehijccmaaBlock
namespace Go.Proofs.Ytoleifehijccmaa
set_option linter.unusedVariables false
open Go.RowKit

theorem infoHold : (Try.prog.info? 52).map (fun i => (i.zero, i.size, i.bytes)) = some (some (.agg #[.int .i64 0, .int .i64 0, .string ⟨#[]⟩, .int .i64 0, .int .i64 0, .string ⟨#[]⟩, .int .i64 0, .int .i64 0, .int .i64 0]), 9, 88) := by kernel_rfl
theorem hold_len : ∀ x : Hold, (Hold.cells x).length = 9 := fun _ => rfl
theorem hold_one : ∀ x : Hold, ∀ u ∈ Hold.cells x, u.oneCell' = true := by
  intro x u hu
  simp only [Hold.cells, List.mem_cons, List.not_mem_nil, or_false] at hu
  rcases hu with rfl | rfl | rfl | rfl | rfl | rfl | rfl | rfl | rfl <;> rfl
/-- The holds that cover the version and end after the day. -/
noncomputable def covering (hs : List Hold) (l : List Link) (t c : Int) (own : List Ident) (day : Int) : List Hold := hs.filter (fun x => decide (day < x.day1) && coversB x l t c own)
theorem covering_step {hs : List Hold} {l : List Link} {t c : Int} {own : List Ident} {day : Int} {m : Nat} (h : m < hs.length) : covering (hs.take (m + 1)) l t c own day = if (decide (day < hs[m].day1) && coversB hs[m] l t c own) = true then covering (hs.take m) l t c own day ++ [hs[m]] else covering (hs.take m) l t c own day := by
  unfold covering
  rw [List.take_succ_eq_append_getElem h, List.filter_append]
  split
  · rename_i hh
    rw [List.filter_cons_of_pos (by exact hh)]
    rfl
  · rename_i hh
    rw [List.filter_cons_of_neg (by exact hh)]
    simp
theorem covering_len (hs : List Hold) (l : List Link) (t c : Int) (own : List Ident) (day : Int) : (covering hs l t c own day).length ≤ hs.length := List.length_filter_le _ _
/-- On every day from the given one to the day before u some hold is active. -/
structure UInv (cov : List Hold) (day u : Int) : Prop where
  le : day ≤ u
  held : ∀ d, day ≤ d → d < u → ∃ x ∈ cov, activeOn x d = true
def UntilOut (cov : List Hold) (day r : Int) : Prop := ∃ u, UInv cov day u ∧ (∀ x ∈ cov, activeOn x u = false) ∧ r = if u = day then 0 else u
/-- The latest end of the holds that are active on day u, of the first m. -/
structure EInv (cov : List Hold) (u e : Int) (m : Nat) : Prop where
  le : u ≤ e
  at_ : e = u ∨ ∃ x ∈ cov, activeOn x u = true ∧ x.day1 = e
  all : ∀ i (h : i < cov.length), i < m → activeOn cov[i] u = true → cov[i].day1 ≤ e
theorem EInv.skip {cov : List Hold} {u e : Int} {m : Nat} (h : EInv cov u e m) (hm : m < cov.length) (ha : activeOn cov[m] u = false) : EInv cov u e (m + 1) :=
  ⟨h.le, h.at_, fun i hi him hai => by
    rcases Nat.lt_or_ge i m with k | k
    · exact h.all i hi k hai
    · obtain rfl : i = m := by omega
      rw [ha] at hai
      cases hai⟩
theorem EInv.take {cov : List Hold} {u e : Int} {m : Nat} (h : EInv cov u e m) (hm : m < cov.length) (ha : activeOn cov[m] u = true) : EInv cov u (max e cov[m].day1) (m + 1) := by
  have hl := h.le
  rcases Int.le_total e cov[m].day1 with hg | hg
  · rw [Int.max_eq_right hg]
    refine ⟨by omega, .inr ⟨cov[m], List.getElem_mem hm, ha, rfl⟩, fun i hi him hai => ?_⟩
    rcases Nat.lt_or_ge i m with k | k
    · have := h.all i hi k hai
      omega
    · obtain rfl : i = m := by omega
      exact Int.le_refl _
  · rw [Int.max_eq_left hg]
    refine ⟨hl, h.at_, fun i hi him hai => ?_⟩
    rcases Nat.lt_or_ge i m with k | k
    · exact h.all i hi k hai
    · obtain rfl : i = m := by omega
      omega
theorem active_iff {x : Hold} {d : Int} : activeOn x d = true ↔ x.day0 ≤ d ∧ d < x.day1 := by simp [activeOn]
theorem EInv.free {cov : List Hold} {u : Int} (h : EInv cov u u cov.length) : ∀ x ∈ cov, activeOn x u = false := by
  intro x hx
  obtain ⟨i, hi, rfl⟩ := List.getElem_of_mem hx
  cases ha : activeOn cov[i] u
  · rfl
  · have h1 := h.all i hi hi ha
    have h2 := (active_iff.1 ha).2
    omega
theorem EInv.go {cov : List Hold} {day u e : Int} {m : Nat} (h : EInv cov u e m) (hu : UInv cov day u) : UInv cov day e := by
  have h1 := h.le
  have h2 := hu.le
  refine ⟨by omega, fun d hd hde => ?_⟩
  rcases Int.lt_or_le d u with k | k
  · exact hu.held d hd k
  · rcases h.at_ with e1 | ⟨x, hx, ha, hxe⟩
    · omega
    · have := active_iff.1 ha
      exact ⟨x, hx, active_iff.2 ⟨by omega, by omega⟩⟩
theorem idle_Until (w : World) : CallsD Try.prog 87 #[] .returning w fun e u' w' => e = .returned (.tuple #[]) ∧ u' = .returning ∧ w' = w := by
  refine callsD_of_wpS Try.func87 rfl fun c₀ cs hu => ?_
  apply wpS_region
  cases c₀
  simp_all [wpOpsS, go_sem, recoverD, Try.ntmps87, bodyPostS, results, Try.results87]
set_option maxRecDepth 100000 in
set_option maxHeartbeats 2000000 in
theorem hold_Until (A : Option Addr) (c n : Nat) (hs : List Hold) (AL : Option Addr) (cL nL : Nat) (l : List Link) (t col sq rec dy : Int) (A' : Option Addr) (c' n' : Nat) (own : List Ident) (nul lst : Bool) (day : Int) (w : World)
    (hh : SliceIs w w.heap.size Hold.cells 9 A hs) (hnh : hs.length = n) (hn32 : n ≤ 1000000) (hsh : SaneH hs) (hl : SliceIs w w.heap.size Link.cells 10 AL l) (hnl : l.length = nL) (hnl' : nL ≤ 1000000) (hsl : Sane l) (ho : SliceIs w w.heap.size Ident.cells 4 A' own) (hon : own.length = n') (hn' : n' ≤ 1000000) :
    Calls Try.prog 65 #[.slice A n c, .slice AL nL cL, .agg #[.int .i64 t, .int .i64 col, .int .i64 sq, .int .i64 rec, .int .i64 dy, .slice A' n' c', .bool nul, .bool lst], .int .i64 day] w fun e w' =>
      (∃ r, e = .returned (.int .i64 r) ∧ if (validHolds hs && validLinks l) = true then UntilOut (covering hs l t col own day) day r else r = 0) ∧ Below w.heap.size w w' := by
  subst hnh hnl hon
  obtain ⟨i0, hi0, hz0, hz1, hz2⟩ := info_parts infoHold
  have HH := Lib.hid hh
  have HL := Lib.hid hl
  have HO := Lib.hid ho
  have HSH := Lib.hid hsh
  have HSL := Lib.hid hsl
  clear hh hl ho hsh hsl
  cases hvh : validHolds hs
  · have HVH := Lib.hid hvh
    clear hvh
    go_enter_defers Try.func65, Try.ntmps65
    go_wp2_with (first
                | (go_at_call 30; (with_reducible refine (hold_ValidB A c hs.length hs _ ((HH.out.below (B := w.heap.size) (by repeat (first | with_reducible exact Below.refl _ _ | with_reducible assumption | (with_reducible refine Below.setCell ?_ ?_ _; rotate_left; focus (first | exact Nat.le_refl _ | exact Nat.le_add_right _ _ | (simp; done) | (simp; omega) | omega)) | (with_reducible refine Below.alloc ?_ ?_ _; rotate_left; focus (first | exact Nat.le_refl _ | exact Nat.le_add_right _ _ | (simp; done) | (simp; omega) | omega)) | with_reducible refine Below.drew ?_ | with_reducible refine below_drewN ?_ _ | (with_reducible refine below_nextN ?_ (by with_reducible assumption) ?_; rotate_left; focus (first | exact Nat.le_refl _ | exact Nat.le_add_right _ _ | (simp; done) | (simp; omega) | omega))))).mono (by first | exact Nat.le_refl _ | exact Nat.le_add_right _ _ | assumption | (simp; done) | (simp; omega) | omega)) rfl hn32 HSH.out HVH.out).mono ?_); rintro e w1 ⟨rfl, hb1⟩; have hx1 : Below w.heap.size w w1 := below_nextN (by repeat (first | with_reducible exact Below.refl _ _ | with_reducible assumption | (with_reducible refine Below.setCell ?_ ?_ _; rotate_left; focus (first | exact Nat.le_refl _ | exact Nat.le_add_right _ _ | (simp; done) | (simp; omega) | omega)) | (with_reducible refine Below.alloc ?_ ?_ _; rotate_left; focus (first | exact Nat.le_refl _ | exact Nat.le_add_right _ _ | (simp; done) | (simp; omega) | omega)) | with_reducible refine Below.drew ?_ | with_reducible refine below_drewN ?_ _ | (with_reducible refine below_nextN ?_ (by with_reducible assumption) ?_; rotate_left; focus (first | exact Nat.le_refl _ | exact Nat.le_add_right _ _ | (simp; done) | (simp; omega) | omega)))) hb1 (by first | exact Nat.le_refl _ | exact Nat.le_add_right _ _ | assumption | (simp; done) | (simp; omega) | omega); obtain ⟨k1, f1, z1⟩ := keepB hb1 w.heap.size (by first | assumption | (simp; done) | (simp; omega) | omega))
                | (go_at_call 12; (with_reducible refine (identity_ValidN AL cL l.length l _ ((HL.out.below hx1).mono hx1.size) rfl hnl' HSL.out HVL.out).mono ?_); rintro e w2 ⟨rfl, hb2⟩; have hx2 : Below w.heap.size w w2 := below_nextN hx1 hb2 hx1.size))
    refine leaves_cons (f := 87) (args := #[]) (by simp) (by simp [go_sem]) ?_; refine (idle_Until _).mono ?_; rintro e u' w'' ⟨rfl, rfl, rfl⟩; refine ⟨_, results_tmp rfl _ _ _, ?_⟩
    exact ⟨rfl, hx1⟩
  cases hvl : validLinks l
  · have HVH := Lib.hid hvh
    have HVL := Lib.hid hvl
    clear hvh hvl
    go_enter_defers Try.func65, Try.ntmps65
    go_wp2_with (first
                | (go_at_call 30; (with_reducible refine (hold_ValidB A c hs.length hs _ ((HH.out.below (B := w.heap.size) (by repeat (first | with_reducible exact Below.refl _ _ | with_reducible assumption | (with_reducible refine Below.setCell ?_ ?_ _; rotate_left; focus (first | exact Nat.le_refl _ | exact Nat.le_add_right _ _ | (simp; done) | (simp; omega) | omega)) | (with_reducible refine Below.alloc ?_ ?_ _; rotate_left; focus (first | exact Nat.le_refl _ | exact Nat.le_add_right _ _ | (simp; done) | (simp; omega) | omega)) | with_reducible refine Below.drew ?_ | with_reducible refine below_drewN ?_ _ | (with_reducible refine below_nextN ?_ (by with_reducible assumption) ?_; rotate_left; focus (first | exact Nat.le_refl _ | exact Nat.le_add_right _ _ | (simp; done) | (simp; omega) | omega))))).mono (by first | exact Nat.le_refl _ | exact Nat.le_add_right _ _ | assumption | (simp; done) | (simp; omega) | omega)) rfl hn32 HSH.out HVH.out).mono ?_); rintro e w1 ⟨rfl, hb1⟩; have hx1 : Below w.heap.size w w1 := below_nextN (by repeat (first | with_reducible exact Below.refl _ _ | with_reducible assumption | (with_reducible refine Below.setCell ?_ ?_ _; rotate_left; focus (first | exact Nat.le_refl _ | exact Nat.le_add_right _ _ | (simp; done) | (simp; omega) | omega)) | (with_reducible refine Below.alloc ?_ ?_ _; rotate_left; focus (first | exact Nat.le_refl _ | exact Nat.le_add_right _ _ | (simp; done) | (simp; omega) | omega)) | with_reducible refine Below.drew ?_ | with_reducible refine below_drewN ?_ _ | (with_reducible refine below_nextN ?_ (by with_reducible assumption) ?_; rotate_left; focus (first | exact Nat.le_refl _ | exact Nat.le_add_right _ _ | (simp; done) | (simp; omega) | omega)))) hb1 (by first | exact Nat.le_refl _ | exact Nat.le_add_right _ _ | assumption | (simp; done) | (simp; omega) | omega); obtain ⟨k1, f1, z1⟩ := keepB hb1 w.heap.size (by first | assumption | (simp; done) | (simp; omega) | omega))
                | (go_at_call 12; (with_reducible refine (identity_ValidN AL cL l.length l _ ((HL.out.below hx1).mono hx1.size) rfl hnl' HSL.out HVL.out).mono ?_); rintro e w2 ⟨rfl, hb2⟩; have hx2 : Below w.heap.size w w2 := below_nextN hx1 hb2 hx1.size))
    refine leaves_cons (f := 87) (args := #[]) (by simp) (by simp [go_sem]) ?_; refine (idle_Until _).mono ?_; rintro e u' w'' ⟨rfl, rfl, rfl⟩; refine ⟨_, results_tmp rfl _ _ _, ?_⟩
    exact ⟨rfl, hx2⟩
  have hok : ∀ x ∈ hs, holdOk x = true := by
    simp only [validHolds, Bool.and_eq_true, List.all_eq_true] at hvh
    exact hvh.2
  have hle : hs.length ≤ 32 := by
    simp only [validHolds, Bool.and_eq_true, decide_eq_true_eq] at hvh
    exact hvh.1
  have HOK := Lib.hid hok
  have HVH := Lib.hid hvh
  have HVL := Lib.hid hvl
  clear hvh hvl hok
  go_enter_defers Try.func65, Try.ntmps65
  go_upto_region 4 with (first
                        | (go_at_call 30; (with_reducible refine (hold_ValidB A c hs.length hs _ ((HH.out.below (B := w.heap.size) (by repeat (first | with_reducible exact Below.refl _ _ | with_reducible assumption | (with_reducible refine Below.setCell ?_ ?_ _; rotate_left; focus (first | exact Nat.le_refl _ | exact Nat.le_add_right _ _ | (simp; done) | (simp; omega) | omega)) | (with_reducible refine Below.alloc ?_ ?_ _; rotate_left; focus (first | exact Nat.le_refl _ | exact Nat.le_add_right _ _ | (simp; done) | (simp; omega) | omega)) | with_reducible refine Below.drew ?_ | with_reducible refine below_drewN ?_ _ | (with_reducible refine below_nextN ?_ (by with_reducible assumption) ?_; rotate_left; focus (first | exact Nat.le_refl _ | exact Nat.le_add_right _ _ | (simp; done) | (simp; omega) | omega))))).mono (by first | exact Nat.le_refl _ | exact Nat.le_add_right _ _ | assumption | (simp; done) | (simp; omega) | omega)) rfl hn32 HSH.out HVH.out).mono ?_); rintro e w1 ⟨rfl, hb1⟩; have hx1 : Below w.heap.size w w1 := below_nextN (by repeat (first | with_reducible exact Below.refl _ _ | with_reducible assumption | (with_reducible refine Below.setCell ?_ ?_ _; rotate_left; focus (first | exact Nat.le_refl _ | exact Nat.le_add_right _ _ | (simp; done) | (simp; omega) | omega)) | (with_reducible refine Below.alloc ?_ ?_ _; rotate_left; focus (first | exact Nat.le_refl _ | exact Nat.le_add_right _ _ | (simp; done) | (simp; omega) | omega)) | with_reducible refine Below.drew ?_ | with_reducible refine below_drewN ?_ _ | (with_reducible refine below_nextN ?_ (by with_reducible assumption) ?_; rotate_left; focus (first | exact Nat.le_refl _ | exact Nat.le_add_right _ _ | (simp; done) | (simp; omega) | omega)))) hb1 (by first | exact Nat.le_refl _ | exact Nat.le_add_right _ _ | assumption | (simp; done) | (simp; omega) | omega); obtain ⟨k1, f1, z1⟩ := keepB hb1 w.heap.size (by first | assumption | (simp; done) | (simp; omega) | omega))
                        | (go_at_call 12; (with_reducible refine (identity_ValidN AL cL l.length l _ ((HL.out.below hx1).mono hx1.size) rfl hnl' HSL.out HVL.out).mono ?_); rintro e w2 ⟨rfl, hb2⟩; have hx2 : Below w.heap.size w w2 := below_nextN hx1 hb2 hx1.size))
  refine abs_world (P := fun u => Code.wp _ _ _ _ u) (R := fun u => Blk u w.heap.size 58 #[.int .i64 t, .int .i64 col, .int .i64 sq, .int .i64 rec, .int .i64 dy, .slice A' own.length c', .bool nul, .bool lst] ∧ Below w.heap.size w u) ⟨?_, ?_⟩ ?_
  · exact ((Blk.new _ _ _).below hb1 (by simp)).below hb2 z1
  · exact hx2
  clear k1 f1 z1 hb1 hb2 hx1 hx2
  rintro W ⟨hB, hbW⟩
  have hzW := hB.lt
  have HB := Lib.hid hB
  clear hB
  go_wp2_with fail
  go_loopw [9, 26] (fun vo vi wr => ∃ m : Nat, m ≤ hs.length ∧ vi = .int .i64 m ∧ Owns wr W.heap.size 52 Hold.cells 9 vo (covering (hs.take m) l t col own day) ∧ Below W.heap.size W wr) (fun _ vi _ => hs.length - (intOf vi).toNat)
  case atStart => exact ⟨0, Nat.zero_le _, rfl, Owns.nil, Below.refl _ _⟩
  case round =>
    obtain ⟨m, hm, rfl, hown, hbr⟩ := hrel
    have hwz := hbr.size
    have hxr := below_nextN hbW hbr hbW.size
    have hzr := hxr.size
    by_cases hlt : m < hs.length
    · obtain ⟨b5, o5, rfl, hb5, hc5⟩ := (HH.out.below hxr).get hlt
      obtain ⟨h0, h1, ⟨h2, h3, h4, h5⟩, h6, h7, h8⟩ := Hold.cells9 hc5
      obtain ⟨q0, q1, q2, q3, q4, q5, q6, q7⟩ := Owned.blk (HB.out.below hbr hzW)
      have hsm := HSH.out hs[m] (List.getElem_mem hlt)
      have hsq : hs[m].seq ≤ 9223372036854775807 := by
        obtain ⟨_, _, _, _, _, _, h, _⟩ := (holdOk_iff _).1 (HOK.out hs[m] (List.getElem_mem hlt))
        omega
      have hzw' : w.heap.size < wr.heap.size := by omega
      have HOWN := Lib.hid hown
      have hrow := hown.row
      have hbl : (covering (hs.take m) l t col own day).length ≤ m := Nat.le_trans (covering_len _ _ _ _ _ _) (by simp; omega)
      clear hc5 hown
      cases ha : decide (day < hs[m].day1)
      · have HA := Lib.hid ha
        go_wp2_with fail
        clear ha
        go_roundw
        case rel => exact ⟨m + 1, by omega, by go_num, by rw [covering_step hlt, HA.out]; exact HOWN.out.alloc _, hbr.alloc hwz _⟩
        case measure => simp [intOf]; omega
      · cases hcv : coversB hs[m] l t col own
        · have HA := Lib.hid ha
          have HCV := Lib.hid hcv
          clear hcv
          go_wp2_with (go_at_call 63; (with_reducible refine (hold_covers hs[m] AL cL l.length l t col sq rec dy A' c' own.length own nul lst _ ((HL.out.below (B := w.heap.size) (by repeat (first | with_reducible exact Below.refl _ _ | with_reducible assumption | (with_reducible refine Below.setCell ?_ ?_ _; rotate_left; focus (first | exact Nat.le_refl _ | exact Nat.le_add_right _ _ | (simp; done) | (simp; omega) | omega)) | (with_reducible refine Below.alloc ?_ ?_ _; rotate_left; focus (first | exact Nat.le_refl _ | exact Nat.le_add_right _ _ | (simp; done) | (simp; omega) | omega)) | with_reducible refine Below.drew ?_ | with_reducible refine below_drewN ?_ _ | (with_reducible refine below_nextN ?_ (by with_reducible assumption) ?_; rotate_left; focus (first | exact Nat.le_refl _ | exact Nat.le_add_right _ _ | (simp; done) | (simp; omega) | omega))))).mono (by first | exact Nat.le_refl _ | exact Nat.le_add_right _ _ | assumption | (simp; done) | (simp; omega) | omega)) rfl hnl' HSL.out hsm hsq ((HO.out.below (B := w.heap.size) (by repeat (first | with_reducible exact Below.refl _ _ | with_reducible assumption | (with_reducible refine Below.setCell ?_ ?_ _; rotate_left; focus (first | exact Nat.le_refl _ | exact Nat.le_add_right _ _ | (simp; done) | (simp; omega) | omega)) | (with_reducible refine Below.alloc ?_ ?_ _; rotate_left; focus (first | exact Nat.le_refl _ | exact Nat.le_add_right _ _ | (simp; done) | (simp; omega) | omega)) | with_reducible refine Below.drew ?_ | with_reducible refine below_drewN ?_ _ | (with_reducible refine below_nextN ?_ (by with_reducible assumption) ?_; rotate_left; focus (first | exact Nat.le_refl _ | exact Nat.le_add_right _ _ | (simp; done) | (simp; omega) | omega))))).mono (by first | exact Nat.le_refl _ | exact Nat.le_add_right _ _ | assumption | (simp; done) | (simp; omega) | omega)) rfl hn' HCV.out).mono ?_); rintro e w2 ⟨rfl, hb2⟩; have hx2 : Below wr.heap.size wr w2 := below_nextN (by repeat (first | with_reducible exact Below.refl _ _ | with_reducible assumption | (with_reducible refine Below.setCell ?_ ?_ _; rotate_left; focus (first | exact Nat.le_refl _ | exact Nat.le_add_right _ _ | (simp; done) | (simp; omega) | omega)) | (with_reducible refine Below.alloc ?_ ?_ _; rotate_left; focus (first | exact Nat.le_refl _ | exact Nat.le_add_right _ _ | (simp; done) | (simp; omega) | omega)) | with_reducible refine Below.drew ?_ | with_reducible refine below_drewN ?_ _ | (with_reducible refine below_nextN ?_ (by with_reducible assumption) ?_; rotate_left; focus (first | exact Nat.le_refl _ | exact Nat.le_add_right _ _ | (simp; done) | (simp; omega) | omega)))) hb2 (by first | exact Nat.le_refl _ | exact Nat.le_add_right _ _ | assumption | (simp; done) | (simp; omega) | omega); have hzz2 := hx2.size; obtain ⟨k2, f2, z2⟩ := keepB hb2 wr.heap.size (by first | assumption | (simp; done) | (simp; omega) | omega))
          clear ha
          go_roundw
          case rel => exact ⟨m + 1, by omega, by go_num, by rw [covering_step hlt, HA.out, HCV.out]; exact HOWN.out.below hx2 (Nat.le_refl _), below_nextN hbr hx2 hwz⟩
          case measure => simp [intOf]; omega
        · have HA := Lib.hid ha
          have HCV := Lib.hid hcv
          clear hcv
          go_upto_region 9 with (go_at_call 63; (with_reducible refine (hold_covers hs[m] AL cL l.length l t col sq rec dy A' c' own.length own nul lst _ ((HL.out.below (B := w.heap.size) (by repeat (first | with_reducible exact Below.refl _ _ | with_reducible assumption | (with_reducible refine Below.setCell ?_ ?_ _; rotate_left; focus (first | exact Nat.le_refl _ | exact Nat.le_add_right _ _ | (simp; done) | (simp; omega) | omega)) | (with_reducible refine Below.alloc ?_ ?_ _; rotate_left; focus (first | exact Nat.le_refl _ | exact Nat.le_add_right _ _ | (simp; done) | (simp; omega) | omega)) | with_reducible refine Below.drew ?_ | with_reducible refine below_drewN ?_ _ | (with_reducible refine below_nextN ?_ (by with_reducible assumption) ?_; rotate_left; focus (first | exact Nat.le_refl _ | exact Nat.le_add_right _ _ | (simp; done) | (simp; omega) | omega))))).mono (by first | exact Nat.le_refl _ | exact Nat.le_add_right _ _ | assumption | (simp; done) | (simp; omega) | omega)) rfl hnl' HSL.out hsm hsq ((HO.out.below (B := w.heap.size) (by repeat (first | with_reducible exact Below.refl _ _ | with_reducible assumption | (with_reducible refine Below.setCell ?_ ?_ _; rotate_left; focus (first | exact Nat.le_refl _ | exact Nat.le_add_right _ _ | (simp; done) | (simp; omega) | omega)) | (with_reducible refine Below.alloc ?_ ?_ _; rotate_left; focus (first | exact Nat.le_refl _ | exact Nat.le_add_right _ _ | (simp; done) | (simp; omega) | omega)) | with_reducible refine Below.drew ?_ | with_reducible refine below_drewN ?_ _ | (with_reducible refine below_nextN ?_ (by with_reducible assumption) ?_; rotate_left; focus (first | exact Nat.le_refl _ | exact Nat.le_add_right _ _ | (simp; done) | (simp; omega) | omega))))).mono (by first | exact Nat.le_refl _ | exact Nat.le_add_right _ _ | assumption | (simp; done) | (simp; omega) | omega)) rfl hn' HCV.out).mono ?_); rintro e w2 ⟨rfl, hb2⟩; have hx2 : Below wr.heap.size wr w2 := below_nextN (by repeat (first | with_reducible exact Below.refl _ _ | with_reducible assumption | (with_reducible refine Below.setCell ?_ ?_ _; rotate_left; focus (first | exact Nat.le_refl _ | exact Nat.le_add_right _ _ | (simp; done) | (simp; omega) | omega)) | (with_reducible refine Below.alloc ?_ ?_ _; rotate_left; focus (first | exact Nat.le_refl _ | exact Nat.le_add_right _ _ | (simp; done) | (simp; omega) | omega)) | with_reducible refine Below.drew ?_ | with_reducible refine below_drewN ?_ _ | (with_reducible refine below_nextN ?_ (by with_reducible assumption) ?_; rotate_left; focus (first | exact Nat.le_refl _ | exact Nat.le_add_right _ _ | (simp; done) | (simp; omega) | omega)))) hb2 (by first | exact Nat.le_refl _ | exact Nat.le_add_right _ _ | assumption | (simp; done) | (simp; omega) | omega); have hzz2 := hx2.size; obtain ⟨k2, f2, z2⟩ := keepB hb2 wr.heap.size (by first | assumption | (simp; done) | (simp; omega) | omega))
          have hO2 : Owns (w2.alloc (.cells hs[m].cells.toArray 52)) W.heap.size 52 Hold.cells 9 u9 (covering (hs.take m) l t col own day) := (HOWN.out.below hx2 (Nat.le_refl _)).alloc _
          have hone : SliceIs (w2.alloc (.cells hs[m].cells.toArray 52)) (w2.alloc (.cells hs[m].cells.toArray 52)).heap.size Hold.cells 9 (some ⟨w2.heap.size, 0, none⟩) [hs[m]] := Blk.one (enc := Hold.cells) (x := hs[m]) (Blk.new' rfl) (by simp)
          have HO2 := Lib.hid hO2
          have HONE := Lib.hid hone
          clear hO2 hone ha
          go_wp2_with (at_builtin; go_must ((refine wpList_append_list _ rfl (.tmp 40) (.tmp 42) 50 rfl 52 i0 _ Hold.cells 9 88 Try.underlying50 hi0 hz0 hz1 hz2 rfl (by omega) hold_len hold_one W.heap.size u9 (covering (hs.take m) l t col own day) rfl HO2.out _ _ _ [hs[m]] rfl rfl HONE.out (by simp; omega) (by simp [maxLen]; omega) (by simp; omega) ?_); intro v' w3 hown' hg' hat'; have HOWN' := Lib.hid hown'; clear hown'; have hbel : Below W.heap.size W w3 := Below.grown ((below_nextN hbr hx2 hwz).alloc (by omega) _) hg' (by simp; omega) (fun q e => by have := hrow q e; omega)))
          go_roundw
          case rel => exact ⟨m + 1, by omega, by go_num, by rw [covering_step hlt, HA.out, HCV.out]; exact HOWN'.out, hbel⟩
          case measure => simp [intOf]; omega
    · have hlt' : decide (m < hs.length) = false := by simpa using hlt
      obtain rfl : m = hs.length := by omega
      rw [List.take_length] at hown
      obtain ⟨A9, c9, rfl, hc9, hs9, hA9⟩ := hown.slice hold_len
      obtain ⟨cov, hcov⟩ : ∃ cov, covering hs l t col own day = cov := ⟨_, rfl⟩
      have hcl : cov.length ≤ 32 := by have := covering_len hs l t col own day; rw [hcov] at this; omega
      have hend : ∀ x ∈ cov, x.day1 ≤ 1048576 := fun x hx => by
        rw [← hcov] at hx
        have := (holdOk_iff x).1 (HOK.out x (List.mem_filter.1 hx).1)
        exact this.2.2.2.2.2.2.2.2.2.2
      rw [hcov] at hs9
      rw [hcov]
      have HCOV := Lib.hid hcov
      have HEND := Lib.hid hend
      have HS9 := Lib.hid hs9
      clear hcov hend hs9 hown hA9 hlt'
      obtain ⟨wo, rfl⟩ : ∃ wo : World, wo = wr := ⟨_, rfl⟩
      go_wp2_with fail
      go_loopw [12] (fun vu wr => ∃ u : Int, vu = .int .i64 u ∧ UInv cov day u ∧ Below wo.heap.size wo wr) (fun vu _ => (1048576 - intOf vu).toNat)
      case atStart => exact ⟨day, rfl, ⟨Int.le_refl _, fun d h1 h2 => by omega⟩, Below.refl _ _⟩
      case round =>
        obtain ⟨u, rfl, hui, hbo⟩ := hrel
        have HUI := Lib.hid hui
        clear hui
        obtain ⟨wp, rfl⟩ : ∃ wp : World, wp = wr := ⟨_, rfl⟩
        go_wp2_with fail
        go_loopw [13, 49] (fun ve vi wr => ∃ (e : Int) (k : Nat), k ≤ cov.length ∧ vi = .int .i64 k ∧ ve = .int .i64 e ∧ EInv cov u e k ∧ Below wp.heap.size wp wr) (fun _ vi _ => cov.length - (intOf vi).toNat)
        case atStart => exact ⟨u, 0, Nat.zero_le _, rfl, rfl, ⟨Int.le_refl _, .inl rfl, fun i _ h => by omega⟩, Below.refl _ _⟩
        case round =>
          obtain ⟨e, k, hk, rfl, rfl, hei, hbi⟩ := hrel
          have HEI := Lib.hid hei
          have hbx := below_nextN hbo hbi hbo.size
          have hpz := hbi.size
          clear hei
          by_cases hkl : k < cov.length
          · obtain ⟨b5, o5, rfl, hb5, hc5⟩ := (HS9.out.next hbx).get hkl
            obtain ⟨h0, h1, ⟨h2, h3, h4, h5⟩, h6, h7, h8⟩ := Hold.cells9 hc5
            clear hc5
            cases ha : activeOn cov[k] u
            · have HA := Lib.hid ha
              clear ha
              go_wp2_with (go_at_call 62; (with_reducible refine (hold_ActiveB cov[k] u _ HA.out).mono ?_); rintro e w1 ⟨rfl, hb1⟩; have hx1 : Below wr.heap.size wr w1 := below_nextN (by repeat (first | with_reducible exact Below.refl _ _ | with_reducible assumption | (with_reducible refine Below.setCell ?_ ?_ _; rotate_left; focus (first | exact Nat.le_refl _ | exact Nat.le_add_right _ _ | (simp; done) | (simp; omega) | omega)) | (with_reducible refine Below.alloc ?_ ?_ _; rotate_left; focus (first | exact Nat.le_refl _ | exact Nat.le_add_right _ _ | (simp; done) | (simp; omega) | omega)) | with_reducible refine Below.drew ?_ | with_reducible refine below_drewN ?_ _ | (with_reducible refine below_nextN ?_ (by with_reducible assumption) ?_; rotate_left; focus (first | exact Nat.le_refl _ | exact Nat.le_add_right _ _ | (simp; done) | (simp; omega) | omega)))) hb1.1 (by first | exact Nat.le_refl _ | exact Nat.le_add_right _ _ | assumption | (simp; done) | (simp; omega) | omega))
              go_roundw
              case rel => exact ⟨e, k + 1, by omega, by go_num, rfl, HEI.out.skip hkl HA.out, below_nextN hbi hx1 hpz⟩
              case measure => simp [intOf]; omega
            · have HA := Lib.hid ha
              clear ha
              go_wp2_with (go_at_call 62; (with_reducible refine (hold_ActiveB cov[k] u _ HA.out).mono ?_); rintro e w1 ⟨rfl, hb1⟩; have hx1 : Below wr.heap.size wr w1 := below_nextN (by repeat (first | with_reducible exact Below.refl _ _ | with_reducible assumption | (with_reducible refine Below.setCell ?_ ?_ _; rotate_left; focus (first | exact Nat.le_refl _ | exact Nat.le_add_right _ _ | (simp; done) | (simp; omega) | omega)) | (with_reducible refine Below.alloc ?_ ?_ _; rotate_left; focus (first | exact Nat.le_refl _ | exact Nat.le_add_right _ _ | (simp; done) | (simp; omega) | omega)) | with_reducible refine Below.drew ?_ | with_reducible refine below_drewN ?_ _ | (with_reducible refine below_nextN ?_ (by with_reducible assumption) ?_; rotate_left; focus (first | exact Nat.le_refl _ | exact Nat.le_add_right _ _ | (simp; done) | (simp; omega) | omega)))) hb1.1 (by first | exact Nat.le_refl _ | exact Nat.le_add_right _ _ | assumption | (simp; done) | (simp; omega) | omega); obtain ⟨k1, f1, z1⟩ := keepE hb1 wr.heap.size (by first | assumption | (simp; done) | (simp; omega) | omega))
              go_roundw
              case rel => exact ⟨max e cov[k].day1, k + 1, by omega, by go_num, rfl, HEI.out.take hkl HA.out, below_nextN hbi hx1 hpz⟩
              case measure => simp [intOf]; omega
          · have hkl' : decide (k < cov.length) = false := by simpa using hkl
            obtain rfl : k = cov.length := by omega
            by_cases heu : e = u
            · subst heu
              by_cases hed : e = day
              · have hed' : (e == day) = true := by simpa using hed
                go_wp2_with fail
                refine leaves_cons (f := 87) (args := #[]) (by simp) (by simp [go_sem]) ?_; refine (idle_Until _).mono ?_; rintro e u' w'' ⟨rfl, rfl, rfl⟩; refine ⟨_, results_tmp rfl _ _ _, ?_⟩
                refine ⟨⟨_, rfl, ?_⟩, below_nextN hxr hbx hzr⟩
                rw [HCOV.out]
                exact ⟨e, HUI.out, HEI.out.free, by rw [if_pos hed]⟩
              · have hed' : (e == day) = false := by simpa using hed
                go_wp2_with fail
                refine leaves_cons (f := 87) (args := #[]) (by simp) (by simp [go_sem]) ?_; refine (idle_Until _).mono ?_; rintro e u' w'' ⟨rfl, rfl, rfl⟩; refine ⟨_, results_tmp rfl _ _ _, ?_⟩
                refine ⟨⟨_, rfl, ?_⟩, below_nextN hxr hbx hzr⟩
                rw [HCOV.out]
                exact ⟨e, HUI.out, HEI.out.free, by rw [if_neg hed]⟩
            · have heu' : (e == u) = false := by simpa using heu
              have hlu : u < e := by have := HEI.out.le; omega
              have hle2 : e ≤ 1048576 := by
                rcases HEI.out.at_ with h | ⟨x, hx, _, h⟩
                · omega
                · rw [← h]; exact HEND.out x hx
              go_wp2_with fail
              go_roundw
              case rel => exact ⟨e, rfl, HEI.out.go HUI.out, hbx⟩
              case measure => simp [intOf]; omega
end Go.Proofs.Ytoleifehijccmaa
