/-
  For every list of holds, every version and every day the law HoldRaw returns true: Valid, Active, Covers, Blocking, Until and Blocked agree with the reference. No condition.
-/
import Derived.Test.YtmckeeegphgekaaGreatG4
import Derived.Test.YtmckeeegphgekaaGreatRows
import Derived.WalkKit
import Derived.ProofKit
import Derived.OpenShut
import Derived.ShutString
import Derived.ChangeOld
import Derived.Below
import Derived.SizedLaws
import Derived.Deep.Slices
import Derived.Deep.Strs
import Derived.Lib.SmallJoins
/-
  The law HoldRaw.
-/
namespace Go.Proofs.YtmckeeegphgekaaGreat
set_option linter.unusedVariables false
open Go.RowKit

/-- The owners' slices lie below B, however long they are. -/
def OwnersAt (w : World) (B : Nat) (o : List Owned) : Prop := ∀ x ∈ o, SliceIs w B Ident.cells 4 x.A x.own
set_option maxRecDepth 100000 in
set_option maxHeartbeats 1000000 in
theorem small_owned (A : Option Addr) (c n : Nat) (o : List Owned) (w : World) (ho : SliceIs w w.heap.size Owned.cells 8 A o) (hin : OwnersAt w w.heap.size o) (hon : o.length = n) :
    Calls Tryz.prog 28 #[.slice A n c] w fun e w' => (∃ r, e = .returned (.bool r) ∧ (r = true → ∀ x ∈ o, x.own.length ≤ 20)) ∧ w = w' := by
  subst hon
  have HO := Lib.hid ho
  have HIN := Lib.hid hin
  clear ho hin
  by_cases h40 : 40 < o.length
  · have h40' : decide (40 < o.length) = true := by simpa using h40
    go_enter Tryz.func28, Tryz.ntmps28
    go_wp2_with fail
    go_ret
    exact ⟨⟨false, rfl, fun h => by cases h⟩, rfl⟩
  have h40' : decide (40 < o.length) = false := by simpa using h40
  go_enter Tryz.func28, Tryz.ntmps28
  go_wp2_with fail
  clear h40'
  go_loopw [3] (fun vi wr => ∃ m : Nat, m ≤ o.length ∧ vi = .int .i64 m ∧ w = wr ∧ (∀ i (h : i < o.length), i < m → o[i].own.length ≤ 20)) (fun vi _ => o.length - (intOf vi).toNat)
  case atStart => exact ⟨0, Nat.zero_le _, rfl, rfl, fun i _ h => by omega⟩
  case round =>
    obtain ⟨m, hm, rfl, rfl, hok⟩ := hrel
    have HOK := Lib.hid hok
    clear hok
    by_cases hlt : m < o.length
    · obtain ⟨b5, o5, rfl, hb5, hc5⟩ := HO.out.get hlt
      obtain ⟨g0, g1, g2, g3, g4, g5, g6, g7⟩ := Owned.cells8 hc5
      have hio := HIN.out o[m] (List.getElem_mem hlt)
      obtain ⟨⟨t, cl, sq, rc, dy, A0, c0, own0, nul, lst⟩, hx⟩ : ∃ x : Owned, o[m] = x := ⟨_, rfl⟩
      rw [hx] at g0 g1 g2 g3 g4 g5 g6 g7 hio
      simp only at g0 g1 g2 g3 g4 g5 g6 g7 hio
      have HX := Lib.hid hx
      have HIO := Lib.hid hio
      clear hc5 hx hio
      by_cases h20 : 20 < own0.length
      · have h20' : decide (20 < own0.length) = true := by simpa using h20
        go_wp2_with fail
        go_ret
        exact ⟨⟨false, rfl, fun h => by cases h⟩, rfl⟩
      have h20' : decide (20 < own0.length) = false := by simpa using h20
      go_wp2_with fail
      clear h20'
      go_loopw [4] (fun vj wi => ∃ j : Nat, j ≤ own0.length ∧ vj = .int .i64 j ∧ w = wi) (fun vj _ => own0.length - (intOf vj).toNat)
      case atStart => exact ⟨0, Nat.zero_le _, rfl, rfl⟩
      case round =>
        obtain ⟨j, hj, rfl, rfl⟩ := hrel
        by_cases hjl : j < own0.length
        · obtain ⟨b6, o6, rfl, hb6, hc6⟩ := HIO.out.get hjl
          obtain ⟨y0, y1, y2, y3⟩ := Ident.cells4 hc6
          clear hc6
          by_cases k1 : 100 < own0[j].ns.size
          · have k1' : decide (100 < own0[j].ns.size) = true := by simpa using k1
            go_wp2_with fail
            go_ret
            first | exact ⟨⟨false, rfl, fun h => by cases h⟩, rfl⟩ | exact ⟨.inl rfl, rfl⟩
          have k1' : decide (100 < own0[j].ns.size) = false := by simpa using k1
          by_cases k2 : 100 < own0[j].val.text.size
          · have k2' : decide (100 < own0[j].val.text.size) = true := by simpa using k2
            go_wp2_with fail
            go_ret
            first | exact ⟨⟨false, rfl, fun h => by cases h⟩, rfl⟩ | exact ⟨.inl rfl, rfl⟩
          have k2' : decide (100 < own0[j].val.text.size) = false := by simpa using k2
          go_wp2_with fail
          go_roundw
          case rel => exact ⟨j + 1, by omega, by go_num, trivial⟩
          case measure => simp [intOf]; omega
        · have hjl' : decide (j < own0.length) = false := by simpa using hjl
          go_wp2_with fail
          go_roundw
          case rel => exact ⟨m + 1, by omega, by go_num, trivial, fun i h hi => by
            rcases Nat.lt_or_ge i m with h1 | h1
            · exact HOK.out i h h1
            · obtain rfl : i = m := by omega
              rw [HX.out]
              show own0.length ≤ 20
              omega⟩
          case measure => simp [intOf]; omega
    · have hlt' : decide (m < o.length) = false := by simpa using hlt
      go_wp2_with fail
      go_ret
      refine ⟨⟨true, rfl, fun _ x hx => ?_⟩, rfl⟩
      obtain ⟨i, hi, rfl⟩ := List.getElem_of_mem hx
      exact HOK.out i hi (by omega)
theorem sane_nil : Sane [] := fun y hy => by cases hy
theorem owners_one {w : World} {B : Nat} {x : Owned} (h : SliceIs w B Ident.cells 4 x.A x.own) : OwnersAt w B [x] := fun y hy => by rw [List.mem_singleton.1 hy]; exact h
theorem owners_in {w : World} {B : Nat} {x : Owned} (h : SliceIs w B Ident.cells 4 x.A x.own) (hl : x.own.length ≤ 1000000) : OwnersIn w B [x] := fun y hy => by rw [List.mem_singleton.1 hy]; exact ⟨h, hl⟩
set_option maxRecDepth 100000 in
set_option maxHeartbeats 4000000 in
theorem holdraw_walk (A : Option Addr) (c : Nat) (hs : List Hold) (x : Owned) (day : Int) (w : World) (hh : SliceIs w w.heap.size Hold.cells 9 A hs) (hio : SliceIs w w.heap.size Ident.cells 4 x.A x.own) :
    Calls Tryz.prog 7 #[.slice A hs.length c, .agg #[.int .i64 x.table, .int .i64 x.col, .int .i64 x.seq, .int .i64 x.record, .int .i64 x.day, .slice x.A x.own.length x.cap, .bool x.null, .bool x.last], .int .i64 day] w fun e w' => e = .returned (.bool true) ∧ Below w.heap.size w w' := by
  have HH := Lib.hid hh
  have HIO := Lib.hid hio
  clear hh hio
  by_cases h40 : 40 < hs.length
  · have h40' : decide (40 < hs.length) = true := by simpa using h40
    go_enter Tryz.func7, Tryz.ntmps7
    go_wp2_with fail
    refine (hawake_any _).mono ?_
    rintro e w1 ⟨rfl, hb1⟩
    go_wp2_with fail
    go_ret
    exact ⟨rfl, below_nextN (by repeat (first | with_reducible exact Below.refl _ _ | with_reducible assumption | (with_reducible refine Below.setCell ?_ ?_ _; rotate_left; focus (first | exact Nat.le_refl _ | exact Nat.le_add_right _ _ | (simp; done) | (simp; omega) | omega)) | (with_reducible refine Below.alloc ?_ ?_ _; rotate_left; focus (first | exact Nat.le_refl _ | exact Nat.le_add_right _ _ | (simp; done) | (simp; omega) | omega)) | with_reducible refine Below.drew ?_ | with_reducible refine below_drewN ?_ _ | (with_reducible refine below_nextN ?_ (by with_reducible assumption) ?_; rotate_left; focus (first | exact Nat.le_refl _ | exact Nat.le_add_right _ _ | (simp; done) | (simp; omega) | omega)))) hb1 (by first | exact Nat.le_refl _ | exact Nat.le_add_right _ _ | assumption | (simp; done) | (simp; omega) | omega)⟩
  have h40' : decide (40 < hs.length) = false := by simpa using h40
  go_enter Tryz.func7, Tryz.ntmps7
  go_wp2_with fail
  clear h40'
  (with_reducible refine (small_owned _ 1 1 [x] _ ?_ (owners_one (HIO.out.next (by repeat (first | with_reducible exact Below.refl _ _ | with_reducible assumption | (with_reducible refine Below.setCell ?_ ?_ _; rotate_left; focus (first | exact Nat.le_refl _ | exact Nat.le_add_right _ _ | (simp; done) | (simp; omega) | omega)) | (with_reducible refine Below.alloc ?_ ?_ _; rotate_left; focus (first | exact Nat.le_refl _ | exact Nat.le_add_right _ _ | (simp; done) | (simp; omega) | omega)) | with_reducible refine Below.drew ?_ | with_reducible refine below_drewN ?_ _ | (with_reducible refine below_nextN ?_ (by with_reducible assumption) ?_; rotate_left; focus (first | exact Nat.le_refl _ | exact Nat.le_add_right _ _ | (simp; done) | (simp; omega) | omega)))))) (by simp)).mono ?_)
  · exact Blk.one (enc := Owned.cells) (x := x) (Blk.new' (t := 50) (by simp)) (by simp)
  rintro e w1 ⟨⟨r, rfl, hr⟩, rfl⟩
  have HR := Lib.hid hr
  clear hr
  cases r
  · go_wp2_with fail
    refine (hawake_any _).mono ?_
    rintro e w1 ⟨rfl, hb1⟩
    go_wp2_with fail
    go_ret
    exact ⟨rfl, below_nextN (by repeat (first | with_reducible exact Below.refl _ _ | with_reducible assumption | (with_reducible refine Below.setCell ?_ ?_ _; rotate_left; focus (first | exact Nat.le_refl _ | exact Nat.le_add_right _ _ | (simp; done) | (simp; omega) | omega)) | (with_reducible refine Below.alloc ?_ ?_ _; rotate_left; focus (first | exact Nat.le_refl _ | exact Nat.le_add_right _ _ | (simp; done) | (simp; omega) | omega)) | with_reducible refine Below.drew ?_ | with_reducible refine below_drewN ?_ _ | (with_reducible refine below_nextN ?_ (by with_reducible assumption) ?_; rotate_left; focus (first | exact Nat.le_refl _ | exact Nat.le_add_right _ _ | (simp; done) | (simp; omega) | omega)))) hb1 (by first | exact Nat.le_refl _ | exact Nat.le_add_right _ _ | assumption | (simp; done) | (simp; omega) | omega)⟩
  have hlen : x.own.length ≤ 1000000 := Nat.le_trans (HR.out rfl x (by simp)) (by omega)
  clear HR
  go_upto_region 3 with (fail)
  refine abs_world (P := fun u => Code.wp _ _ _ _ u) (R := fun u => Blk u w.heap.size 50 #[.int .i64 x.table, .int .i64 x.col, .int .i64 x.seq, .int .i64 x.record, .int .i64 x.day, .slice x.A x.own.length x.cap, .bool x.null, .bool x.last] ∧ Below w.heap.size w u) ⟨?_, ?_⟩ ?_
  · exact (Blk.new _ _ _).alloc _
  · repeat (first | with_reducible exact Below.refl _ _ | with_reducible assumption | (with_reducible refine Below.setCell ?_ ?_ _; rotate_left; focus (first | exact Nat.le_refl _ | exact Nat.le_add_right _ _ | (simp; done) | (simp; omega) | omega)) | (with_reducible refine Below.alloc ?_ ?_ _; rotate_left; focus (first | exact Nat.le_refl _ | exact Nat.le_add_right _ _ | (simp; done) | (simp; omega) | omega)) | with_reducible refine Below.drew ?_ | with_reducible refine below_drewN ?_ _ | (with_reducible refine below_nextN ?_ (by with_reducible assumption) ?_; rotate_left; focus (first | exact Nat.le_refl _ | exact Nat.le_add_right _ _ | (simp; done) | (simp; omega) | omega)))
  rintro W ⟨hB, hbW⟩
  have hzW := hB.lt
  obtain ⟨q0, q1, q2, q3, q4, q5, q6, q7⟩ := Owned.blk hB
  clear hB
  go_wp2_with fail
  go_loopw [7] (fun vi wr => ∃ m : Nat, m ≤ hs.length ∧ vi = .int .i64 m ∧ W = wr ∧ (∀ i (h : i < hs.length), i < m → hs[i].who.ns.size ≤ 100)) (fun vi _ => hs.length - (intOf vi).toNat)
  case atStart => exact ⟨0, Nat.zero_le _, rfl, rfl, fun i _ h => by omega⟩
  case round =>
    obtain ⟨m, hm, rfl, rfl, hok⟩ := hrel
    have HOK := Lib.hid hok
    clear hok
    by_cases hlt : m < hs.length
    · obtain ⟨b5, o5, rfl, hb5, hc5⟩ := (HH.out.below hbW).get hlt
      obtain ⟨h0, h1, ⟨h2, h3, h4, h5⟩, h6, h7, h8⟩ := Hold.cells9 hc5
      clear hc5
      by_cases k1 : 100 < hs[m].who.ns.size
      · have k1' : decide (100 < hs[m].who.ns.size) = true := by simpa using k1
        go_wp2_with fail
        refine (hawake_any _).mono ?_
        rintro e w1 ⟨rfl, hb1⟩
        go_wp2_with fail
        go_ret
        exact ⟨rfl, below_nextN hbW hb1 hbW.size⟩
      have k1' : decide (100 < hs[m].who.ns.size) = false := by simpa using k1
      by_cases k2 : 100 < hs[m].who.val.text.size
      · have k2' : decide (100 < hs[m].who.val.text.size) = true := by simpa using k2
        go_wp2_with fail
        refine (hawake_any _).mono ?_
        rintro e w1 ⟨rfl, hb1⟩
        go_wp2_with fail
        go_ret
        exact ⟨rfl, below_nextN hbW hb1 hbW.size⟩
      have k2' : decide (100 < hs[m].who.val.text.size) = false := by simpa using k2
      go_wp2_with fail
      go_roundw
      case rel => exact ⟨m + 1, by omega, by go_num, trivial, fun i h hi => by
        rcases Nat.lt_or_ge i m with h1 | h1
        · exact HOK.out i h h1
        · obtain rfl : i = m := by omega
          omega⟩
      case measure => simp [intOf]; omega
    · have hlt' : decide (m < hs.length) = false := by simpa using hlt
      have hsane : SaneH hs := fun y hy => by
        obtain ⟨i, hi, rfl⟩ := List.getElem_of_mem hy
        exact Nat.le_trans (HOK.out i hi (by omega)) (by omega)
      have HSN := Lib.hid hsane
      clear hsane
      go_wp2_with fail
      clear hlt'
      (with_reducible refine (looks19 A c hs.length hs none 0 0 [] _ 1 1 [x] day _ ((HH.out.next hbW).next (by repeat (first | with_reducible exact Below.refl _ _ | with_reducible assumption | (with_reducible refine Below.setCell ?_ ?_ _; rotate_left; focus (first | exact Nat.le_refl _ | exact Nat.le_add_right _ _ | (simp; done) | (simp; omega) | omega)) | (with_reducible refine Below.alloc ?_ ?_ _; rotate_left; focus (first | exact Nat.le_refl _ | exact Nat.le_add_right _ _ | (simp; done) | (simp; omega) | omega)) | with_reducible refine Below.drew ?_ | with_reducible refine below_drewN ?_ _ | (with_reducible refine below_nextN ?_ (by with_reducible assumption) ?_; rotate_left; focus (first | exact Nat.le_refl _ | exact Nat.le_add_right _ _ | (simp; done) | (simp; omega) | omega))))) rfl (by omega) HSN.out SliceIs.nil rfl (by omega) sane_nil ?_ (owners_in ((HIO.out.next hbW).next (by repeat (first | with_reducible exact Below.refl _ _ | with_reducible assumption | (with_reducible refine Below.setCell ?_ ?_ _; rotate_left; focus (first | exact Nat.le_refl _ | exact Nat.le_add_right _ _ | (simp; done) | (simp; omega) | omega)) | (with_reducible refine Below.alloc ?_ ?_ _; rotate_left; focus (first | exact Nat.le_refl _ | exact Nat.le_add_right _ _ | (simp; done) | (simp; omega) | omega)) | with_reducible refine Below.drew ?_ | with_reducible refine below_drewN ?_ _ | (with_reducible refine below_nextN ?_ (by with_reducible assumption) ?_; rotate_left; focus (first | exact Nat.le_refl _ | exact Nat.le_add_right _ _ | (simp; done) | (simp; omega) | omega))))) hlen) (by simp) (by omega)).mono ?_)
      · exact Blk.one (enc := Owned.cells) (x := x) (Blk.new' (t := 50) rfl) (by simp)
      rintro e w1 ⟨rfl, hb1⟩
      have hx1 : Below w.heap.size w w1 := below_nextN (hbW.alloc hbW.size _) hb1 (by first | exact Nat.le_refl _ | exact Nat.le_add_right _ _ | assumption | (simp; done) | (simp; omega) | omega)
      go_wp2_with fail
      refine (hawake_any _).mono ?_
      rintro e w2 ⟨rfl, hb2⟩
      go_wp2_with fail
      go_ret
      exact ⟨rfl, below_nextN hx1 hb2 hx1.size⟩
end Go.Proofs.YtmckeeegphgekaaGreat
/-
  For every list of holds, every version and every day the law HoldRaw returns true: Valid, Active, Covers, Blocking, Until and Blocked agree with the reference. No condition.
-/
namespace Go.Proofs.YtmckeeegphgekaaGreat.holdRaw
open Go.ChangeShapes Go.WideShapes Go.ChangeAt Go.RowKit
set_option linter.unusedVariables false

section
variable {H : Type} {enc : TypeId × Value → H} {w : World} {base : Nat} {spare : Nat → Bool} {held : Bool} {fuel : Nat} {cs : List Value} {x : DataW H × List MemPlace}
theorem list4 (h : cs.length = 4) : ∃ a b c d, cs = [a, b, c, d] := by
  match cs, h with
  | [a, b, c, d], _ => exact ⟨a, b, c, d, rfl⟩
theorem list9 (h : cs.length = 9) : ∃ a b c d e f g i j, cs = [a, b, c, d, e, f, g, i, j] := by
  match cs, h with
  | [a, b, c, d, e, f, g, i, j], _ => exact ⟨a, b, c, d, e, f, g, i, j, rfl⟩
theorem list8 (h : cs.length = 8) : ∃ a b c d e f g i, cs = [a, b, c, d, e, f, g, i] := by
  match cs, h with
  | [a, b, c, d, e, f, g, i], _ => exact ⟨a, b, c, d, e, f, g, i, rfl⟩
theorem list3 (h : cs.length = 3) : ∃ a b c, cs = [a, b, c] := by
  match cs, h with
  | [a, b, c], _ => exact ⟨a, b, c, rfl⟩
theorem trod_struct6 {P : Program} {t : TypeId} {f0 f1 f2 f3 f4 f5 : Field} {fuel : Nat} {cs : List Value} {x : DataW H × List MemPlace} (ht : P.underlying t = some (.struct #[f0, f1, f2, f3, f4, f5])) (h : DataW.trod enc P w base spare held fuel t cs = some x) :
    ∃ y0 y1 y2 y3 y4 y5 n, cs.length = P.cellsOf t ∧ DataW.trod enc P w base spare held n f0.type ((cs.drop f0.offset).take (P.cellsOf f0.type)) = some y0 ∧
      DataW.trod enc P w base spare held n f1.type ((cs.drop f1.offset).take (P.cellsOf f1.type)) = some y1 ∧ DataW.trod enc P w base spare held n f2.type ((cs.drop f2.offset).take (P.cellsOf f2.type)) = some y2 ∧
      DataW.trod enc P w base spare held n f3.type ((cs.drop f3.offset).take (P.cellsOf f3.type)) = some y3 ∧ DataW.trod enc P w base spare held n f4.type ((cs.drop f4.offset).take (P.cellsOf f4.type)) = some y4 ∧
      DataW.trod enc P w base spare held n f5.type ((cs.drop f5.offset).take (P.cellsOf f5.type)) = some y5 := by
  obtain ⟨xs, n, _, rfl, hl, hlen, hf⟩ := DataW.trod_struct ht h
  match xs, hlen with
  | [y0, y1, y2, y3, y4, y5], _ => exact ⟨y0, y1, y2, y3, y4, y5, n, hl, by simpa using hf 0 f0 rfl, by simpa using hf 1 f1 rfl, by simpa using hf 2 f2 rfl, by simpa using hf 3 f3 rfl, by simpa using hf 4 f4 rfl, by simpa using hf 5 f5 rfl⟩
def identData (x : Ident) : DataW H := .agg [.lit (.string x.ns.data.toList), .agg [.lit (.int .i64 x.val.kind), .lit (.int .i64 x.val.num), .lit (.string x.val.text.data.toList)]]
theorem cells_id : Tryz.prog.cellsOf 57 = 4 := by kernel_rfl
theorem cells_val : Tryz.prog.cellsOf 55 = 3 := by kernel_rfl
theorem cells_hold : Tryz.prog.cellsOf 61 = 9 := by kernel_rfl
theorem cells_owned : Tryz.prog.cellsOf 50 = 8 := by kernel_rfl
theorem cells_version : Tryz.prog.cellsOf 47 = 3 := by kernel_rfl
theorem cells_ids : Tryz.prog.cellsOf 48 = 1 := by kernel_rfl
theorem cells_str : Tryz.prog.cellsOf 9 = 1 := by kernel_rfl
theorem cells_int : Tryz.prog.cellsOf 3 = 1 := by kernel_rfl
theorem cells_int64 : Tryz.prog.cellsOf 2 = 1 := by kernel_rfl
theorem cells_bool : Tryz.prog.cellsOf 4 = 1 := by kernel_rfl
theorem ident_trod (h : DataW.trod enc Tryz.prog w base spare held fuel 57 cs = some x) : ∃ id : Ident, cs = id.cells ∧ x.1 = identData id := by
  obtain ⟨y0, y1, n, rfl, hl, h0, h1⟩ := trod_struct2 Tryz.underlying57 h
  rw [cells_id] at hl
  obtain ⟨c0, c1, c2, c3, rfl⟩ := list4 hl
  simp only [cells_str, cells_val, List.drop_zero, List.take_succ_cons, List.take_zero, List.drop_succ_cons] at h0 h1
  obtain ⟨s, e0, rfl, _⟩ := DataW.trod_string Tryz.underlying9 h0
  obtain ⟨z0, z1, z2, m, rfl, _, g0, g1, g2⟩ := Go.Deep.trod_struct3 Tryz.underlying55 h1
  simp only [cells_str, cells_int, cells_int64, List.drop_zero, List.take_succ_cons, List.take_zero, List.drop_succ_cons] at g0 g1 g2
  obtain ⟨k, e1, rfl, _⟩ := DataW.trod_int Tryz.underlying3 g0
  obtain ⟨i, e2, rfl, _⟩ := DataW.trod_int Tryz.underlying2 g1
  obtain ⟨t, e3, rfl, _⟩ := DataW.trod_string Tryz.underlying9 g2
  simp only [List.cons.injEq, and_true] at e0 e1 e2 e3
  subst e0 e1 e2 e3
  exact ⟨⟨s, ⟨k, i, t⟩⟩, rfl, rfl⟩
theorem list_of {α : Type} {n : Nat} {Q : Nat → α → Prop} (h : ∀ i, i < n → ∃ y, Q i y) : ∃ l : List α, l.length = n ∧ ∀ i (hi : i < l.length), Q i l[i] := by
  induction n with
  | zero => exact ⟨[], rfl, fun i hi => by simp at hi⟩
  | succ n ih =>
    obtain ⟨l, hl, hq⟩ := ih fun i hi => h i (by omega)
    obtain ⟨y, hy⟩ := h n (by omega)
    refine ⟨l ++ [y], by simp [hl], fun i hi => ?_⟩
    rcases Nat.lt_or_ge i n with h1 | h1
    · rw [List.getElem_append_left (by omega)]; exact hq i (by omega)
    · have e : i = n := by simp at hi; omega
      subst e
      rw [List.getElem_append_right (by omega)]
      simpa [hl] using hy
theorem mapM_get {α : Type} {f : Nat → Option α} : ∀ {l : List Nat} {r : List α}, l.mapM f = some r → ∀ j : Nat, j < l.length → (l[j]?.bind f) = r[j]?
  | [], r, _, j, hj => by simp at hj
  | a :: l, r, h, j, hj => by
    rw [List.mapM_cons] at h
    cases ha : f a with
    | none => simp [ha] at h
    | some v =>
      cases hm : l.mapM f with
      | none => simp [ha, hm] at h
      | some vs =>
        simp [ha, hm] at h
        subst h
        cases j with
        | zero => simp [ha]
        | succ j => simpa using mapM_get hm j (by simpa using hj)
theorem cells_get {a : Addr} {n : Nat} {r : List Value} (h : w.cells? base a n = some r) (j : Nat) (hj : j < n) : w.cell? (a.add j) = r[j]? := by
  unfold World.cells? at h
  split at h
  · have := mapM_get h j (by simpa using hj)
    simpa [hj] using this
  · cases h
theorem span_none {a : Addr} {v : Value} (h : w.cell? a = some v) : a.spot = none := by
  cases hs : a.spot with
  | none => rfl
  | some y =>
    simp only [World.cell?, hs, Option.isSome_some, if_true] at h
    split at h <;> simp at h
theorem add_eq (b o n : Nat) : (Addr.mk b o none).add n = ⟨b, o + n, none⟩ := by
  unfold Addr.add
  split
  · rename_i h; subst h; rfl
  · rfl
theorem hold_trod (h : DataW.trod enc Tryz.prog w base spare held fuel 61 cs = some x) : ∃ y : Hold, cs = y.cells := by
  obtain ⟨y0, y1, y2, y3, y4, y5, n, hl, h0, h1, h2, h3, h4, h5⟩ := trod_struct6 Tryz.underlying61 h
  rw [cells_hold] at hl
  obtain ⟨c0, c1, c2, c3, c4, c5, c6, c7, c8, rfl⟩ := list9 hl
  simp only [cells_id, cells_int, List.drop_zero, List.take_succ_cons, List.take_zero, List.drop_succ_cons] at h0 h1 h2 h3 h4 h5
  obtain ⟨k0, e0, _, _⟩ := DataW.trod_int Tryz.underlying3 h0
  obtain ⟨k1, e1, _, _⟩ := DataW.trod_int Tryz.underlying3 h1
  obtain ⟨p, e2, _⟩ := ident_trod h2
  obtain ⟨k3, e3, _, _⟩ := DataW.trod_int Tryz.underlying3 h3
  obtain ⟨k4, e4, _, _⟩ := DataW.trod_int Tryz.underlying3 h4
  obtain ⟨k5, e5, _, _⟩ := DataW.trod_int Tryz.underlying3 h5
  simp only [Ident.cells, List.cons.injEq, and_true] at e0 e1 e2 e3 e4 e5
  obtain ⟨rfl, rfl, rfl, rfl⟩ := e2
  subst e0 e1 e3 e4 e5
  exact ⟨⟨k0, k1, p, k3, k4, k5⟩, rfl⟩
theorem holds_open {a : Option Addr} {len cap : Nat} (h : DataW.trod enc Tryz.prog w base spare held fuel 40 [.slice a len cap] = some x) : ∃ l : List Hold, l.length = len ∧ SliceIs w w.heap.size Hold.cells 9 a l := by
  rcases Go.Deep.open_slice Tryz.underlying40 h with ⟨hcs, _⟩ | ⟨a', len', cap', m, n, D, Pl, hcs, _, hl, _, hm, _, hel⟩
  · simp only [List.cons.injEq, Value.slice.injEq, and_true] at hcs
    obtain ⟨rfl, rfl, rfl⟩ := hcs
    exact ⟨[], rfl, SliceIs.nil⟩
  · simp only [List.cons.injEq, Value.slice.injEq, and_true] at hcs
    obtain ⟨rfl, rfl, rfl⟩ := hcs
    have hlm : len ≤ m := by rw [hm]; split <;> omega
    obtain ⟨l, hll, hq⟩ := list_of (n := len) (Q := fun i (y : Hold) => ∀ j, j < 9 → w.cell? ((a'.add (i * 9)).add j) = y.cells[j]?) (fun i hi => by
      obtain ⟨cs', h1, h2⟩ := hel i (by omega)
      obtain ⟨y, rfl⟩ := hold_trod h2
      rw [cells_hold] at h1
      exact ⟨y, fun j hj => cells_get h1 j hj⟩)
    refine ⟨l, hll, fun h0 => ?_⟩
    obtain ⟨xb, xo, xs⟩ := a'
    have hc0 := hq 0 h0 0 (by omega)
    rw [show (l[0].cells)[0]? = some (.int .i64 l[0].table) from rfl] at hc0
    have hsp : xs = none := by
      have := span_none hc0
      simpa [Addr.add] using this
    subst hsp
    simp only [add_eq] at hq hc0
    have hlt : xb < w.heap.size := by
      rcases Nat.lt_or_ge xb w.heap.size with h | h
      · exact h
      · simp [World.cell?, Array.getElem?_eq_none h] at hc0
    refine ⟨xb, xo, rfl, hlt, fun i hi j u hu => ?_⟩
    have hj : j < 9 := by have := (List.getElem?_eq_some_iff.1 hu).1; simpa [Hold.cells] using this
    rw [← Nat.add_assoc, hq i hi j hj]
    exact hu
theorem ids_open {a : Option Addr} {len cap : Nat} (h : DataW.trod enc Tryz.prog w base spare held fuel 48 [.slice a len cap] = some x) : ∃ l : List Ident, l.length = len ∧ SliceIs w w.heap.size Ident.cells 4 a l := by
  rcases Go.Deep.open_slice Tryz.underlying48 h with ⟨hcs, _⟩ | ⟨a', len', cap', m, n, D, Pl, hcs, _, hl, _, hm, _, hel⟩
  · simp only [List.cons.injEq, Value.slice.injEq, and_true] at hcs
    obtain ⟨rfl, rfl, rfl⟩ := hcs
    exact ⟨[], rfl, SliceIs.nil⟩
  · simp only [List.cons.injEq, Value.slice.injEq, and_true] at hcs
    obtain ⟨rfl, rfl, rfl⟩ := hcs
    have hlm : len ≤ m := by rw [hm]; split <;> omega
    obtain ⟨l, hll, hq⟩ := list_of (n := len) (Q := fun i (y : Ident) => ∀ j, j < 4 → w.cell? ((a'.add (i * 4)).add j) = y.cells[j]?) (fun i hi => by
      obtain ⟨cs', h1, h2⟩ := hel i (by omega)
      obtain ⟨y, rfl, _⟩ := ident_trod h2
      rw [cells_id] at h1
      exact ⟨y, fun j hj => cells_get h1 j hj⟩)
    refine ⟨l, hll, fun h0 => ?_⟩
    obtain ⟨xb, xo, xs⟩ := a'
    have hc0 := hq 0 h0 0 (by omega)
    rw [show (l[0].cells)[0]? = some (.string l[0].ns) from rfl] at hc0
    have hsp : xs = none := by
      have := span_none hc0
      simpa [Addr.add] using this
    subst hsp
    simp only [add_eq] at hq hc0
    have hlt : xb < w.heap.size := by
      rcases Nat.lt_or_ge xb w.heap.size with h | h
      · exact h
      · simp [World.cell?, Array.getElem?_eq_none h] at hc0
    refine ⟨xb, xo, rfl, hlt, fun i hi j u hu => ?_⟩
    have hj : j < 4 := by have := (List.getElem?_eq_some_iff.1 hu).1; simpa [Ident.cells] using this
    rw [← Nat.add_assoc, hq i hi j hj]
    exact hu
theorem owned_trod (h : DataW.trod enc Tryz.prog w base spare held fuel 50 cs = some x) : ∃ y : Owned, cs = y.cells ∧ SliceIs w w.heap.size Ident.cells 4 y.A y.own := by
  obtain ⟨y0, y1, y2, y3, y4, y5, n, hl, h0, h1, h2, h3, h4, h5⟩ := trod_struct6 Tryz.underlying50 h
  rw [cells_owned] at hl
  obtain ⟨c0, c1, c2, c3, c4, c5, c6, c7, rfl⟩ := list8 hl
  simp only [cells_version, cells_ids, cells_int, cells_bool, List.drop_zero, List.take_succ_cons, List.take_zero, List.drop_succ_cons] at h0 h1 h2 h3 h4 h5
  obtain ⟨z0, z1, z2, m, _, _, g0, g1, g2⟩ := Go.Deep.trod_struct3 Tryz.underlying47 h0
  simp only [cells_int, List.drop_zero, List.take_succ_cons, List.take_zero, List.drop_succ_cons] at g0 g1 g2
  obtain ⟨a0, e0, _, _⟩ := DataW.trod_int Tryz.underlying3 g0
  obtain ⟨a1, e1, _, _⟩ := DataW.trod_int Tryz.underlying3 g1
  obtain ⟨a2, e2, _, _⟩ := DataW.trod_int Tryz.underlying3 g2
  obtain ⟨a3, e3, _, _⟩ := DataW.trod_int Tryz.underlying3 h1
  obtain ⟨a4, e4, _, _⟩ := DataW.trod_int Tryz.underlying3 h2
  obtain ⟨b6, e6, _⟩ := DataW.trod_bool Tryz.underlying4 h4
  obtain ⟨b7, e7, _⟩ := DataW.trod_bool Tryz.underlying4 h5
  have hsl : ∃ a len cap, [c5] = [Value.slice a len cap] := by
    rcases Go.Deep.open_slice Tryz.underlying48 h3 with ⟨hcs, _⟩ | ⟨a', len', cap', m', n', D, Pl, hcs, _⟩
    · exact ⟨_, _, _, hcs⟩
    · exact ⟨_, _, _, hcs⟩
  obtain ⟨a, len, cap, e5⟩ := hsl
  simp only [List.cons.injEq, and_true] at e0 e1 e2 e3 e4 e5 e6 e7
  subst e0 e1 e2 e3 e4 e5 e6 e7
  obtain ⟨l, hll, hs⟩ := ids_open h3
  subst hll
  exact ⟨⟨a0, a1, a2, a3, a4, a, cap, l, b6, b7⟩, rfl, hs⟩
end
theorem own : ownKnob Tryz.prog.godebug = none := by kernel_rfl
theorem laidOut : laidOutB Tryz.prog = true := by kernel_rfl
set_option maxRecDepth 100000 in
theorem lifted (os : Os) (started : os.Started) (H : Type) (enc : TypeId × Value → H) :
    ReturnsInHanded {} Tryz.checked os 7 .any (Rows.holdRawSpec.pre6 enc Tryz.prog Tryz.f7 Rows.holdRawRow.domain false) (Rows.holdRawSpec.post enc Tryz.prog Tryz.f7 false true false false) := by
  refine returnsInHanded_of_change (C := Tryz.checked) own started (by kernel_rfl) Tryz.func7
    (ChangeSpec.witness6 (enc := enc) (C := Tryz.checked) false ⟨#[], #[.slice none 0 0, .agg #[.int .i64 0, .int .i64 0, .int .i64 0, .int .i64 0, .int .i64 0, .slice none 0 0, .bool false, .bool false], .int .i64 0], []⟩ 8 (by kernel_rfl) (by kernel_rfl) (by kernel_rfl) (by kernel_rfl)) ?_
  intro W base args ds gs before hval0 hW hcnd _
  have hval : ∀ (j : Nat) t v, Tryz.f7.params[j]? = some t → args[j]? = some v → Value.okWide Tryz.prog W .any base t v := hval0
  have hW' := hW
  obtain ⟨p, q, hA0, hV, rfl, hfz, hnd⟩ := hW
  have hA : DataW.TrodAll enc Tryz.prog W 0 (fun _ => true) true Tryz.f7.params.toList args.toList ds p := hA0
  rw [Tryz.params7] at hA hval
  obtain ⟨v0, vs0, d0, ds0, p0, q0, hargs, rfl, rfl, h0, r0⟩ := trodAll_cons hA
  obtain ⟨v1, vs1, d1, ds1, p1, q1, rfl, rfl, rfl, h1, r1⟩ := trodAll_cons r0
  obtain ⟨v2, vs2, d2, ds2, p2, q2, rfl, rfl, rfl, h2, r2⟩ := trodAll_cons r1
  obtain ⟨rfl, rfl, rfl⟩ := trodAll_nil r2
  obtain rfl : args = #[v0, v1, v2] := by cases args; simp_all
  obtain ⟨rfl, rfl⟩ := trodVars_none hV
  obtain ⟨a0, len0, cap0, rfl⟩ := okWide_slice Tryz.underlying40 (hval 0 40 v0 rfl rfl)
  obtain ⟨cs1, rfl, _⟩ := okWide_struct Tryz.underlying50 (hval 1 50 v1 rfl rfl)
  have k0 := h0
  have k1 := h1
  have lt0 : ∀ x ∈ p0, x.block < W.heap.size := by obtain ⟨m, hm⟩ := k0; exact DataW.trod_lt m _ _ _ hm
  have lt1 : ∀ x ∈ p1, x.block < W.heap.size := by obtain ⟨m, hm⟩ := k1; exact DataW.trod_lt m _ _ _ hm
  obtain ⟨a2, rfl, rfl, rfl, w2⟩ := open_int Tryz.underlying3 (hval 2 3 v2 rfl rfl) h2
  obtain ⟨l, hll, hsl⟩ : ∃ l : List Hold, l.length = len0 ∧ SliceIs W W.heap.size Hold.cells 9 a0 l := by
    obtain ⟨fuel, hf⟩ := h0
    exact holds_open (by simpa [Value.cells] using hf)
  obtain ⟨x, ex, hx⟩ : ∃ x : Owned, cs1.toList = x.cells ∧ SliceIs W W.heap.size Ident.cells 4 x.A x.own := by
    obtain ⟨fuel, hf⟩ := h1
    exact owned_trod (by simpa [Value.cells] using hf)
  obtain rfl : cs1 = x.cells.toArray := by rw [← ex]
  clear hA0 hval0
  subst hll
  refine (holdraw_walk a0 cap0 l x a2 W hsl hx).mono fun e W' ⟨he, bel⟩ => ?_
  subst he
  exact ⟨_, rfl, _, _, _, [], _, [], hW', trodAll_mk1 (shut_bool Tryz.underlying4 _), (trodAll_cons_mk (Below.trod laidOut (by kernel_rfl) (of_decide_eq_true (by kernel_rfl)) k0 bel lt0) (trodAll_cons_mk (Below.trod laidOut (by kernel_rfl) (of_decide_eq_true (by kernel_rfl)) k1 bel lt1) (trodAll_cons_mk (shut_int Tryz.underlying3 w2) trodAll_mk0))), rfl, bel.frame _, fun h => by cases h⟩

theorem over : Rows.holdRawRow.holds Tryz.pinned (OpenSpec.ofChange Rows.holdRawSpec) :=
  OpenClaim.holds_of_wide 7 Tryz.f7 rfl rfl rfl rfl rfl rfl rfl ⟨rfl, rfl, rfl, rfl, rfl⟩ rfl rfl rfl rfl rfl (by kernel_rfl) Tryz.func7 (by kernel_rfl)
    (of_decide_eq_true (by kernel_rfl)) (by unfold Func.isWrapper; first | (rw [if_pos (by decide +kernel)]; kernel_rfl) | (rw [if_neg (by decide +kernel)]; exact ⟨rfl, rfl⟩))
    (fun os started H enc _ => lifted os started H enc)
theorem proved : Rows.HoldRawSaid := over
#print axioms proved
end Go.Proofs.YtmckeeegphgekaaGreat.holdRaw
