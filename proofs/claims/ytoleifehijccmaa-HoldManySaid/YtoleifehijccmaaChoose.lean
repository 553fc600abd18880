/-
  Layer 16: (graph).choose and (graph).list.
-/
import Derived.Test.YtoleifehijccmaaGraph
namespace Go.Proofs.Ytoleifehijccmaa
set_option linter.unusedVariables false
open Go.RowKit

/-- Block g holds just these bools. -/
def BoolBlk (w : World) (g : Nat) (bs : List Bool) : Prop := Blk w g 4 (bs.map Value.bool).toArray
theorem BoolBlk.cell {w : World} {g : Nat} {bs : List Bool} (h : BoolBlk w g bs) {i : Nat} {p : Bool} (hp : bs[i]? = some p) : w.cell? ⟨g, i, none⟩ = some (.bool p) := by
  rw [Blk.cell h]
  simp [hp]
theorem BoolBlk.set_ {w : World} {g : Nat} {bs : List Bool} (h : BoolBlk w g bs) (i : Nat) (q : Bool) : BoolBlk (w.setCell ⟨g, i, none⟩ (.bool q)) g (bs.set i q) := by
  have h1 := Blk.set_ h i (.bool q)
  unfold BoolBlk
  have e : (List.map Value.bool (bs.set i q)).toArray = ((List.map Value.bool bs).toArray).setIfInBounds i (.bool q) := by
    simp [List.map_set]
  rw [e]
  exact h1
theorem grown_new {a b c : World} {g g' : Nat} (h : a.grownBy b (some g)) (k : b.grownBy c (some g')) (hg : a.heap.size ≤ g') : a.grownBy c (some g) :=
  ⟨k.os.trans h.os, k.tape.trans h.tape, k.output.trans h.output, Nat.le_trans h.size k.size, fun i hi hne => (k.block i (Nat.lt_of_lt_of_le hi h.size) (fun e => by injection e with e; omega)).trans (h.block i hi hne)⟩
theorem grown_below {a b c : World} {row : Option Nat} (h : a.grownBy b row) (k : Below b.heap.size b c) : a.grownBy c row :=
  ⟨k.os.trans h.os, k.tape.trans h.tape, k.output.trans h.output, Nat.le_trans h.size k.size, fun i hi hne => (k.block i (Nat.lt_of_lt_of_le hi h.size)).trans (h.block i hi hne)⟩

/-- The marks behind m rounds. -/
def Marked (bs bs' : List Bool) (C : Nat → Prop) (m : Nat) : Prop := bs'.length = bs.length ∧ ∀ i, i < bs.length → (bs'[i]? = some true ↔ (bs[i]? = some true ∨ (i < m ∧ C i)))
theorem Marked.start (bs : List Bool) (C : Nat → Prop) : Marked bs bs C 0 := ⟨rfl, fun i _ => ⟨.inl, fun h => h.elim id (fun h => absurd h.1 (by omega))⟩⟩
theorem Marked.yes {bs bs' : List Bool} {C : Nat → Prop} {m : Nat} (h : Marked bs bs' C m) (hm : m < bs.length) (hc : C m) : Marked bs (bs'.set m true) C (m + 1) := by
  refine ⟨by simpa using h.1, fun i hi => ?_⟩
  by_cases e : i = m
  · subst e
    rw [List.getElem?_set_self (by rw [h.1]; exact hm)]
    exact ⟨fun _ => .inr ⟨by omega, hc⟩, fun _ => rfl⟩
  · rw [List.getElem?_set_ne (fun e' => e e'.symm), h.2 i hi]
    constructor
    · rintro (h | ⟨h1, h2⟩)
      · exact .inl h
      · exact .inr ⟨by omega, h2⟩
    · rintro (h | ⟨h1, h2⟩)
      · exact .inl h
      · exact .inr ⟨by omega, h2⟩
theorem Marked.no {bs bs' : List Bool} {C : Nat → Prop} {m : Nat} (h : Marked bs bs' C m) (hc : ¬ C m) : Marked bs bs' C (m + 1) := by
  refine ⟨h.1, fun i hi => ?_⟩
  rw [h.2 i hi]
  constructor
  · rintro (h | ⟨h1, h2⟩)
    · exact .inl h
    · exact .inr ⟨by omega, h2⟩
  · rintro (h | ⟨h1, h2⟩)
    · exact .inl h
    · refine .inr ⟨?_, h2⟩
      rcases Nat.lt_or_ge i m with h3 | h3
      · exact h3
      · obtain rfl : i = m := by omega
        exact absurd h2 hc

set_option maxRecDepth 100000 in
set_option maxHeartbeats 1000000 in
theorem graph_choose (A : Option Addr) (c : Nat) (l : List Ident) (EA : Option Addr) (ec : Nat) (es : List Edge) (gb cb : Nat) (bs : List Bool) (x : Ident) (seq : Int) (w : World)
    (hl : SliceIs w w.heap.size Ident.cells 4 A l) (hn : l.length ≤ 1000000) (ha : Asc l) (hx : insK l x < l.length)
    (he : SliceIs w w.heap.size Edge.cells 4 EA es) (hes : es.length ≤ 1000000) (hr : ∀ e ∈ es, e.a < l.length ∧ e.b < l.length) (hb : BoolBlk w gb bs) (hbl : bs.length = l.length) :
    Calls Try.prog 37 #[.agg #[.slice A l.length c, .slice EA es.length ec], .slice (some ⟨gb, 0, none⟩) l.length cb, .agg #[.string x.ns, .int .i64 x.val.kind, .int .i64 x.val.num, .string x.val.text], .int .i64 seq] w fun e w' =>
      e = .returned (.tuple #[]) ∧ ∃ bs', Marked bs bs' (fun i => Conn (inForce es seq) (insK l x) i) l.length ∧ BoolBlk w' gb bs' ∧ w.grownBy w' (some gb) := by
  have HB := Lib.hid hb
  have hgl := Blk.lt hb
  clear hb
  go_enter Try.func37, Try.ntmps37
  go_wp2_with ((go_at_call 55; (with_reducible refine (graph_components A c l.length EA ec es seq _ hn ?_ hes hr).mono ?_); (exact he.next (by repeat (first | with_reducible exact Below.refl _ _ | with_reducible assumption | (with_reducible refine Below.setCell ?_ ?_ _; rotate_left; focus (first | exact Nat.le_refl _ | exact Nat.le_add_right _ _ | (simp; done) | (simp; omega) | omega)) | (with_reducible refine Below.alloc ?_ ?_ _; rotate_left; focus (first | exact Nat.le_refl _ | exact Nat.le_add_right _ _ | (simp; done) | (simp; omega) | omega)) | with_reducible refine Below.drew ?_ | with_reducible refine below_drewN ?_ _ | (with_reducible refine below_nextN ?_ (by with_reducible assumption) ?_; rotate_left; focus (first | exact Nat.le_refl _ | exact Nat.le_add_right _ _ | (simp; done) | (simp; omega) | omega))))); rintro e w1 ⟨⟨g, f, rfl, hf1, hg1, hst⟩, hb1⟩; obtain ⟨c0, f0, z0⟩ := keepB hb1 w.heap.size (by first | assumption | (simp; done) | (simp; omega) | omega); obtain ⟨c1, f1, z1⟩ := keepB hb1 (w.heap.size + 1) (by first | assumption | (simp; done) | (simp; omega) | omega); have hx1 : Below w.heap.size w w1 := below_nextN (by repeat (first | with_reducible exact Below.refl _ _ | with_reducible assumption | (with_reducible refine Below.setCell ?_ ?_ _; rotate_left; focus (first | exact Nat.le_refl _ | exact Nat.le_add_right _ _ | (simp; done) | (simp; omega) | omega)) | (with_reducible refine Below.alloc ?_ ?_ _; rotate_left; focus (first | exact Nat.le_refl _ | exact Nat.le_add_right _ _ | (simp; done) | (simp; omega) | omega)) | with_reducible refine Below.drew ?_ | with_reducible refine below_drewN ?_ _ | (with_reducible refine below_nextN ?_ (by with_reducible assumption) ?_; rotate_left; focus (first | exact Nat.le_refl _ | exact Nat.le_add_right _ _ | (simp; done) | (simp; omega) | omega)))) hb1 (by first | exact Nat.le_refl _ | exact Nat.le_add_right _ _ | assumption | (simp; done) | (simp; omega) | omega); have HF1 := Lib.hid hf1; have HST := Lib.hid hst; clear hf1 hst))
  with_reducible refine (graph_index A c l (.slice EA es.length ec) x _ ⟨_, _, _, rfl⟩ (hl.next hx1) hn ha).mono ?_
  rintro e w2 ⟨rfl, hb2⟩
  have hx2 : Below w.heap.size w w2 := below_nextN hx1 hb2 hx1.size
  have hsz1 := hx1.size
  have hsz2 := hx2.size
  simp only [World.size_alloc] at hg1
  have HF2 : Hid (IntBlk w2 g f) := Blk.below HF1.out hb2 (Blk.lt HF1.out)
  obtain ⟨k0, f20, z20⟩ := keepB hb2 w.heap.size (by omega)
  have HG := Lib.hid (Stands.len HST.out)
  go_wp2_with fail
  with_reducible refine (forest_rootN g l.length l.length f (insK l x) _ ?_ HST.out.forest HG.out hx hn).mono ?_
  · exact HF2.out
  rintro e w3 ⟨r, f3, hr3, hs3, rfl, hf3, hg3⟩
  have hx3 : Below w.heap.size w w3 := Below.grown hx2 hg3 hsz2 (fun q e => by injection e with e; omega)
  have k3 : ∀ o, w3.cell? ⟨w.heap.size, o, none⟩ = w2.cell? ⟨w.heap.size, o, none⟩ := fun o => World.cell?_of_block (hg3.block w.heap.size z20 (fun e => by injection e with e; omega))
  have HR3 := Lib.hid hr3
  have HS3 := Lib.hid hs3
  have HF3 := Lib.hid hf3
  have HB3 : Hid (BoolBlk w3 gb bs) := Blk.below HB.out hx3 hgl
  have HGB : Hid (w.grownBy w3 (some gb)) := only_of_below hx3 _
  have HW := Lib.hid hbl
  have hg1' : w.heap.size ≤ g := by omega
  clear hr3 hs3 hf3 hbl
  go_wp2_with fail
  go_loopw [22] (fun vi wr => ∃ (m : Nat) (f' : List Nat) (bs' : List Bool), m ≤ l.length ∧ vi = .int .i64 m ∧ IntBlk wr g f' ∧ SameRoots f f' ∧ BoolBlk wr gb bs' ∧ Marked bs bs' (fun i => Conn (inForce es seq) (insK l x) i) m ∧ w.grownBy wr (some gb)) (fun vi _ => l.length - (intOf vi).toNat)
  case atStart => exact ⟨0, f3, bs, Nat.zero_le _, rfl, HF3.out, HS3.out, HB3.out, Marked.start _ _, HGB.out⟩
  case round =>
    obtain ⟨m, f', bs', hm, rfl, hf', hs', hb', hmk, hgr⟩ := hrel
    have HF' := Lib.hid hf'
    have HS' := Lib.hid hs'
    have HB' := Lib.hid hb'
    have HMK := Lib.hid hmk
    have HGR := Lib.hid hgr
    clear hf' hs' hb' hmk hgr
    by_cases hlt : m < l.length
    · go_wp2_with ((go_at_call 56; (with_reducible refine (forest_rootN g l.length l.length f' m _ ?_ (HS'.out.forest HST.out.forest) (HS'.out.len.trans HG.out) hlt hn).mono ?_); (exact HF'.out); rintro e w4 ⟨r4, f4, hr4, hs4, rfl, hf4, hg4⟩; have HR4 := Lib.hid hr4; have HS4 := Lib.hid hs4; have HF4 := Lib.hid hf4; clear hr4 hs4 hf4; have hbm : ∃ p, bs'[m]? = some p := ⟨_, List.getElem?_eq_getElem (by rw [HMK.out.1, HW.out]; exact hlt)⟩; obtain ⟨p, hp⟩ := hbm; have HB4 : Hid (BoolBlk w4 gb bs') := Blk.grown HB'.out hg4 (fun e => by injection e with e; omega); have hcb := BoolBlk.cell HB4.out hp; have hfb := Blk.frozen HB4.out m; clear hp))
      · have hrr : (r4 : Int) = (r : Int) := by first | assumption | exact beq_iff_eq.1 (show ((r4 : Int) == (r : Int)) = true by assumption) | omega
        have hc : Conn (inForce es seq) (insK l x) m := (HST.out.conn _ _ _ _ HR3.out ((HS'.out.2 _ _).2 HR4.out)).1 (by omega)
        go_roundw
        case rel => exact ⟨m + 1, f4, bs'.set m true, by omega, by go_num, Blk.far HF4.out (by simp; omega) _, HS'.out.trans HS4.out, HB4.out.set_ m true, HMK.out.yes (by rw [HW.out]; exact hlt) hc, only_setCell (grown_new HGR.out hg4 hg1') (.inl rfl) _⟩
        case measure => simp [intOf]; omega
      · have hrr : ¬ (r4 : Int) = (r : Int) := by first | assumption | exact beq_eq_false_iff_ne.1 (show ((r4 : Int) == (r : Int)) = false by assumption) | omega
        have hc : ¬ Conn (inForce es seq) (insK l x) m := fun h => hrr (by rw [← (HST.out.conn _ _ _ _ HR3.out ((HS'.out.2 _ _).2 HR4.out)).2 h])
        go_roundw
        case rel => exact ⟨m + 1, f4, bs', by omega, by go_num, HF4.out, HS'.out.trans HS4.out, HB4.out, HMK.out.no hc, grown_new HGR.out hg4 hg1'⟩
        case measure => simp [intOf]; omega
    · obtain rfl : m = l.length := by omega
      go_wp2_with fail
      go_end0
      exact ⟨rfl, bs', HMK.out, HB'.out, HGR.out⟩
end Go.Proofs.Ytoleifehijccmaa
