/-
  Layer 16: identity.At: the component of an identifier, for every list of links and every identifier.
-/
import Derived.Test.YtoleifehijccmaaNew
import Derived.Test.YtoleifehijccmaaKeep
import Derived.Test.YtoleifehijccmaaSubj
namespace Go.Proofs.Ytoleifehijccmaa
set_option linter.unusedVariables false
open Go.RowKit

theorem idle_At (w : World) : CallsD Try.prog 35 #[] .returning w fun e u' w' => e = .returned (.tuple #[]) ∧ u' = .returning ∧ w' = w := by
  refine callsD_of_wpS Try.func35 rfl fun c₀ cs hu => ?_
  apply wpS_region
  cases c₀
  simp_all [wpOpsS, go_sem, recoverD, Try.ntmps35, bodyPostS, results, Try.results35]
theorem identity_ValidR {A : Option Addr} {c : Nat} {l : List Link} {w : World} (hl : SliceIs w w.heap.size Link.cells 10 A l) (hn : l.length ≤ 1000000) (hs : Sane l) {r : Bool} (hr : validLinks l = r) :
    Calls Try.prog 12 #[.slice A l.length c] w fun e w' => e = .returned (.bool r) ∧ Below w.heap.size w w' := by
  subst hr
  exact identity_Valid A c l w hl hn hs
theorem newGraph_anyN (A : Option Addr) (c : Nat) (ls : List Link) (b o mc n : Nat) (more : List Ident) (w : World) (hl : SliceIs w w.heap.size Link.cells 10 A ls) (hv : validLinks ls = true)
    (hm : SliceIs w w.heap.size Ident.cells 4 (some ⟨b, o, none⟩) more) (hmn : more.length = n) (h1 : 0 < n) (h2 : n ≤ 1000) (hmv : AllValid more) :
    Calls Try.prog 36 #[.slice A ls.length c, .slice (some ⟨b, o, none⟩) n mc] w fun e w' =>
      (∃ v, e = .returned v ∧ GraphIs w' ls more v) ∧ Below w.heap.size w w' := by
  subst hmn
  exact newGraph_any A c ls b o mc more w hl hv hm h2 h1 hmv
theorem infoBool : (Try.prog.info? 4).map (fun i => (i.zero, i.size, i.bytes)) = some (some (.bool false), 1, 1) := by kernel_rfl
theorem mkBools (n : Nat) (hn : n ≤ 1000000) : ∀ u : World, (Instr.makeSlice 64 (.int .i64 (n : Int)) (.int .i64 (n : Int))).run Try.prog u = .ok (.slice (some ⟨u.heap.size, 0, none⟩) n n) (u.alloc (.cells (madeCells #[.bool false] n) 4)) := fun u => by
  obtain ⟨i0, hi0, hz0, hz1, hz2⟩ := info_parts infoBool
  have h := run_make_rowN (P := Try.prog) 64 4 i0 (.bool false) Try.underlying64 hi0 hz0 .i64 .i64 n n (Nat.le_refl _) (by rw [hz2]; omega) (by omega) u
  simpa [hz1, Value.cells] using h
theorem boolBlk_made {w : World} {g n : Nat} (hg : w.heap.size = g) : BoolBlk (w.alloc (.cells (madeCells #[.bool false] n) 4)) g (List.replicate n false) := by
  have h := Blk.new' (w := w) (g := g) (t := 4) (cs := madeCells #[.bool false] n) hg
  unfold BoolBlk
  have e : madeCells #[Value.bool false] n = (List.map Value.bool (List.replicate n false)).toArray := by
    apply Array.toList_inj.1
    rw [toList_madeCells_one]
    simp
  rw [← e]
  exact h

/-- Marks that say P of each name: the marked names are just those with P, ascending. -/
theorem marks_list {ns : List Ident} (ha : Asc ns) {bs : List Bool} (hl : bs.length = ns.length) {P : Ident → Prop} (hP : ∀ y, P y → y ∈ ns) (hm : ∀ i (h : i < ns.length), bs[i]? = some true ↔ P ns[i]) :
    Asc (keepTo ns bs ns.length) ∧ ∀ y, y ∈ keepTo ns bs ns.length ↔ P y := by
  refine ⟨List.Pairwise.sublist (keepTo_sub ns bs ns.length) ha, fun y => ?_⟩
  rw [keepTo_mem ns bs y hl.symm]
  constructor
  · rintro ⟨i, h1, h2⟩
    obtain ⟨hi, e⟩ := List.getElem?_eq_some_iff.1 h1
    rw [← e]
    exact (hm i hi).1 h2
  · intro h
    obtain ⟨i, hi, e⟩ := List.getElem_of_mem (hP y h)
    exact ⟨i, by rw [List.getElem?_eq_getElem hi, e], (hm i hi).2 (by rw [e]; exact h)⟩
theorem reach_names {ns : List Ident} {ls : List Link} (hn : Names ns ls) {x y : Ident} {s : Int} (hx : x ∈ ns) (h : Reach ls s x y) : y ∈ ns := by
  cases h with
  | refl => exact hx
  | step _ e =>
    obtain ⟨j, hj, _, h⟩ := e
    have := hn.ends ls[j] (List.getElem_mem hj)
    rcases h with ⟨_, h⟩ | ⟨_, h⟩
    · rw [← h]; exact this.2
    · rw [← h]; exact this.1
theorem marks_at {ns : List Ident} {ls : List Link} (hn : Names ns ls) (hv : validLinks ls = true) {x : Ident} (hx : x ∈ ns) {s : Int} (hs : s ≤ 9223372036854775807) {bs : List Bool} {n : Nat} (hnn : ns.length = n)
    (h : Marked (List.replicate n false) bs (fun i => Conn (inForce (edgesOf ns ls) s) (insK ns x) i) n) : IsAt ls x s (keepTo ns bs ns.length) := by
  subst hnn
  have hl : bs.length = ns.length := by simpa using h.1
  refine marks_list hn.asc hl (fun y hy => reach_names hn hx hy) fun i hi => ?_
  rw [h.2 i (by simpa using hi), ← conn_reach hn (validLinks_asc hv) hs hx hi]
  constructor
  · rintro (h | h)
    · rw [List.getElem?_replicate, if_pos hi] at h; cases h
    · exact h.2
  · exact fun h => .inr ⟨hi, h⟩

set_option maxRecDepth 100000 in
set_option maxHeartbeats 2000000 in
theorem identity_At (A : Option Addr) (c : Nat) (l : List Link) (x : Ident) (seq : Int) (w : World) (hl : SliceIs w w.heap.size Link.cells 10 A l) (hn : l.length ≤ 1000000) (hs : Sane l) (hs' : x.ns.size ≤ 1000000) (hseq : seq ≤ 9223372036854775807) :
    Calls Try.prog 13 #[.slice A l.length c, .agg #[.string x.ns, .int .i64 x.val.kind, .int .i64 x.val.num, .string x.val.text], .int .i64 seq] w fun e w' =>
      (∃ out A' c', AtOut l x seq out ∧ e = .returned (.slice A' out.length c') ∧ out.length ≤ c' ∧ SliceIs w' w'.heap.size Ident.cells 4 A' out) ∧ Below w.heap.size w w' := by
  have HS := Lib.hid hs
  have HL := Lib.hid hl
  have HQ := Lib.hid hseq
  clear hs hl hseq
  cases hv : validLinks l
  · have HV := Lib.hid hv
    clear hv
    go_enter_defers Try.func13, Try.ntmps13
    go_wp2_with (go_at_call 12; go_must (with_reducible refine (identity_ValidR (A := A) (c := c) (l := l) ?_ hn HS.out HV.out).mono ?_); (exact HL.out.next (by repeat (first | with_reducible exact Below.refl _ _ | with_reducible assumption | (with_reducible refine Below.setCell ?_ ?_ _; rotate_left; focus (first | exact Nat.le_refl _ | exact Nat.le_add_right _ _ | (simp; done) | (simp; omega) | omega)) | (with_reducible refine Below.alloc ?_ ?_ _; rotate_left; focus (first | exact Nat.le_refl _ | exact Nat.le_add_right _ _ | (simp; done) | (simp; omega) | omega)) | with_reducible refine Below.drew ?_ | with_reducible refine below_drewN ?_ _ | (with_reducible refine below_nextN ?_ (by with_reducible assumption) ?_; rotate_left; focus (first | exact Nat.le_refl _ | exact Nat.le_add_right _ _ | (simp; done) | (simp; omega) | omega))))); rintro e w1 ⟨rfl, hb1⟩; obtain ⟨c0, f0, z0⟩ := keepB hb1 w.heap.size (by first | assumption | (simp; done) | (simp; omega) | omega); have hx1 : Below w.heap.size w w1 := below_nextN (by repeat (first | with_reducible exact Below.refl _ _ | with_reducible assumption | (with_reducible refine Below.setCell ?_ ?_ _; rotate_left; focus (first | exact Nat.le_refl _ | exact Nat.le_add_right _ _ | (simp; done) | (simp; omega) | omega)) | (with_reducible refine Below.alloc ?_ ?_ _; rotate_left; focus (first | exact Nat.le_refl _ | exact Nat.le_add_right _ _ | (simp; done) | (simp; omega) | omega)) | with_reducible refine Below.drew ?_ | with_reducible refine below_drewN ?_ _ | (with_reducible refine below_nextN ?_ (by with_reducible assumption) ?_; rotate_left; focus (first | exact Nat.le_refl _ | exact Nat.le_add_right _ _ | (simp; done) | (simp; omega) | omega)))) hb1 (by first | exact Nat.le_refl _ | exact Nat.le_add_right _ _ | assumption | (simp; done) | (simp; omega) | omega))
    refine leaves_cons (f := 35) (args := #[]) (by simp) (by simp [go_sem]) ?_; refine (idle_At _).mono ?_; rintro e u' w'' ⟨rfl, rfl, rfl⟩; refine ⟨_, results_tmp rfl _ _ _, ?_⟩
    exact ⟨⟨[], none, 0, by unfold AtOut; rw [HV.out]; rfl, rfl, by simp, SliceIs.nil⟩, hx1⟩
  · have HV := Lib.hid hv
    clear hv
    cases hw : validId x
    · have HW := Lib.hid hw
      clear hw
      go_enter_defers Try.func13, Try.ntmps13
      go_wp2_with (first | (go_at_call 12; go_must (with_reducible refine (identity_ValidR (A := A) (c := c) (l := l) ?_ hn HS.out HV.out).mono ?_); (exact HL.out.next (by repeat (first | with_reducible exact Below.refl _ _ | with_reducible assumption | (with_reducible refine Below.setCell ?_ ?_ _; rotate_left; focus (first | exact Nat.le_refl _ | exact Nat.le_add_right _ _ | (simp; done) | (simp; omega) | omega)) | (with_reducible refine Below.alloc ?_ ?_ _; rotate_left; focus (first | exact Nat.le_refl _ | exact Nat.le_add_right _ _ | (simp; done) | (simp; omega) | omega)) | with_reducible refine Below.drew ?_ | with_reducible refine below_drewN ?_ _ | (with_reducible refine below_nextN ?_ (by with_reducible assumption) ?_; rotate_left; focus (first | exact Nat.le_refl _ | exact Nat.le_add_right _ _ | (simp; done) | (simp; omega) | omega))))); rintro e w1 ⟨rfl, hb1⟩; obtain ⟨c0, f0, z0⟩ := keepB hb1 w.heap.size (by first | assumption | (simp; done) | (simp; omega) | omega); have hx1 : Below w.heap.size w w1 := below_nextN (by repeat (first | with_reducible exact Below.refl _ _ | with_reducible assumption | (with_reducible refine Below.setCell ?_ ?_ _; rotate_left; focus (first | exact Nat.le_refl _ | exact Nat.le_add_right _ _ | (simp; done) | (simp; omega) | omega)) | (with_reducible refine Below.alloc ?_ ?_ _; rotate_left; focus (first | exact Nat.le_refl _ | exact Nat.le_add_right _ _ | (simp; done) | (simp; omega) | omega)) | with_reducible refine Below.drew ?_ | with_reducible refine below_drewN ?_ _ | (with_reducible refine below_nextN ?_ (by with_reducible assumption) ?_; rotate_left; focus (first | exact Nat.le_refl _ | exact Nat.le_add_right _ _ | (simp; done) | (simp; omega) | omega)))) hb1 (by first | exact Nat.le_refl _ | exact Nat.le_add_right _ _ | assumption | (simp; done) | (simp; omega) | omega)) | (go_at_call 25; go_must (with_reducible refine (identity_ValidId x _ hs' HW.out).mono ?_); rintro e w2 ⟨rfl, hb2⟩; obtain ⟨c1, f1, z1⟩ := keepE hb2 w.heap.size (by first | assumption | (simp; done) | (simp; omega) | omega); have hx2 : Below w.heap.size w w2 := below_nextN hx1 hb2.1 hx1.size; have hsz2 := hx2.size))
      refine leaves_cons (f := 35) (args := #[]) (by simp) (by simp [go_sem]) ?_; refine (idle_At _).mono ?_; rintro e u' w'' ⟨rfl, rfl, rfl⟩; refine ⟨_, results_tmp rfl _ _ _, ?_⟩
      exact ⟨⟨[], none, 0, by unfold AtOut; rw [HV.out, HW.out]; rfl, rfl, by simp, SliceIs.nil⟩, hx2⟩
    · have HW := Lib.hid hw
      clear hw
      go_enter_defers Try.func13, Try.ntmps13
      go_wp2_with (first | (go_at_call 12; go_must (with_reducible refine (identity_ValidR (A := A) (c := c) (l := l) ?_ hn HS.out HV.out).mono ?_); (exact HL.out.next (by repeat (first | with_reducible exact Below.refl _ _ | with_reducible assumption | (with_reducible refine Below.setCell ?_ ?_ _; rotate_left; focus (first | exact Nat.le_refl _ | exact Nat.le_add_right _ _ | (simp; done) | (simp; omega) | omega)) | (with_reducible refine Below.alloc ?_ ?_ _; rotate_left; focus (first | exact Nat.le_refl _ | exact Nat.le_add_right _ _ | (simp; done) | (simp; omega) | omega)) | with_reducible refine Below.drew ?_ | with_reducible refine below_drewN ?_ _ | (with_reducible refine below_nextN ?_ (by with_reducible assumption) ?_; rotate_left; focus (first | exact Nat.le_refl _ | exact Nat.le_add_right _ _ | (simp; done) | (simp; omega) | omega))))); rintro e w1 ⟨rfl, hb1⟩; obtain ⟨c0, f0, z0⟩ := keepB hb1 w.heap.size (by first | assumption | (simp; done) | (simp; omega) | omega); have hx1 : Below w.heap.size w w1 := below_nextN (by repeat (first | with_reducible exact Below.refl _ _ | with_reducible assumption | (with_reducible refine Below.setCell ?_ ?_ _; rotate_left; focus (first | exact Nat.le_refl _ | exact Nat.le_add_right _ _ | (simp; done) | (simp; omega) | omega)) | (with_reducible refine Below.alloc ?_ ?_ _; rotate_left; focus (first | exact Nat.le_refl _ | exact Nat.le_add_right _ _ | (simp; done) | (simp; omega) | omega)) | with_reducible refine Below.drew ?_ | with_reducible refine below_drewN ?_ _ | (with_reducible refine below_nextN ?_ (by with_reducible assumption) ?_; rotate_left; focus (first | exact Nat.le_refl _ | exact Nat.le_add_right _ _ | (simp; done) | (simp; omega) | omega)))) hb1 (by first | exact Nat.le_refl _ | exact Nat.le_add_right _ _ | assumption | (simp; done) | (simp; omega) | omega)) | (go_at_call 25; go_must (with_reducible refine (identity_ValidId x _ hs' HW.out).mono ?_); rintro e w2 ⟨rfl, hb2⟩; obtain ⟨c1, f1, z1⟩ := keepE hb2 w.heap.size (by first | assumption | (simp; done) | (simp; omega) | omega); have hx2 : Below w.heap.size w w2 := below_nextN hx1 hb2.1 hx1.size; have hsz2 := hx2.size) | (go_at_call 36; go_must (refine (newGraph_anyN A c l w2.heap.size 0 1 1 [x] _ ?_ HV.out ?_ rfl (by omega) (by omega) ?_).mono ?_); (exact HL.out.next (by repeat (first | with_reducible exact Below.refl _ _ | with_reducible assumption | (with_reducible refine Below.setCell ?_ ?_ _; rotate_left; focus (first | exact Nat.le_refl _ | exact Nat.le_add_right _ _ | (simp; done) | (simp; omega) | omega)) | (with_reducible refine Below.alloc ?_ ?_ _; rotate_left; focus (first | exact Nat.le_refl _ | exact Nat.le_add_right _ _ | (simp; done) | (simp; omega) | omega)) | with_reducible refine Below.drew ?_ | with_reducible refine below_drewN ?_ _ | (with_reducible refine below_nextN ?_ (by with_reducible assumption) ?_; rotate_left; focus (first | exact Nat.le_refl _ | exact Nat.le_add_right _ _ | (simp; done) | (simp; omega) | omega))))); (exact Blk.one (Blk.new' rfl) (by simp)); (exact fun y hy => by simp at hy; subst hy; exact HW.out); rintro e w3 ⟨⟨v3, rfl, A3, c3, EA, ec, ns, rfl, hs3, hsE, hna, hmore, hnl⟩, hb3⟩; obtain ⟨c2, f2, z2⟩ := keepB hb3 w.heap.size (by first | assumption | (simp; done) | (simp; omega) | omega); have hx3 : Below w.heap.size w w3 := below_nextN (by repeat (first | with_reducible exact Below.refl _ _ | with_reducible assumption | (with_reducible refine Below.setCell ?_ ?_ _; rotate_left; focus (first | exact Nat.le_refl _ | exact Nat.le_add_right _ _ | (simp; done) | (simp; omega) | omega)) | (with_reducible refine Below.alloc ?_ ?_ _; rotate_left; focus (first | exact Nat.le_refl _ | exact Nat.le_add_right _ _ | (simp; done) | (simp; omega) | omega)) | with_reducible refine Below.drew ?_ | with_reducible refine below_drewN ?_ _ | (with_reducible refine below_nextN ?_ (by with_reducible assumption) ?_; rotate_left; focus (first | exact Nat.le_refl _ | exact Nat.le_add_right _ _ | (simp; done) | (simp; omega) | omega)))) hb3 (by first | exact Nat.le_refl _ | exact Nat.le_add_right _ _ | assumption | (simp; done) | (simp; omega) | omega); have hsz3 := hx3.size; have hzx3 : w.heap.size < w3.heap.size := (by first | assumption | (simp; done) | (simp; omega) | omega); have hnl' : ns.length ≤ 1000000 := (by have := validLinks_len HV.out; simp at hnl; omega); have hmk := mkBools ns.length hnl'; have HS3 := Lib.hid hs3; have HSE := Lib.hid hsE; have HNA := Lib.hid hna; have HMO := Lib.hid (hmore x (by simp)); clear hs3 hsE hna hmore hnl) | (go_at_call 37; go_must (refine (graph_choose A3 c3 ns EA ec (edgesOf ns l) (w3.heap.size + 1) ns.length (List.replicate ns.length false) x seq _ ?_ hnl' HNA.out.asc (insK_mem HNA.out.asc HNA.out.valid HMO.out).1 ?_ ?_ (edgesOf_range HNA.out.asc HNA.out.valid HNA.out.ends) ?_ (by simp)).mono ?_); (exact HS3.out.next (by repeat (first | with_reducible exact Below.refl _ _ | with_reducible assumption | (with_reducible refine Below.setCell ?_ ?_ _; rotate_left; focus (first | exact Nat.le_refl _ | exact Nat.le_add_right _ _ | (simp; done) | (simp; omega) | omega)) | (with_reducible refine Below.alloc ?_ ?_ _; rotate_left; focus (first | exact Nat.le_refl _ | exact Nat.le_add_right _ _ | (simp; done) | (simp; omega) | omega)) | with_reducible refine Below.drew ?_ | with_reducible refine below_drewN ?_ _ | (with_reducible refine below_nextN ?_ (by with_reducible assumption) ?_; rotate_left; focus (first | exact Nat.le_refl _ | exact Nat.le_add_right _ _ | (simp; done) | (simp; omega) | omega))))); (exact HSE.out.next (by repeat (first | with_reducible exact Below.refl _ _ | with_reducible assumption | (with_reducible refine Below.setCell ?_ ?_ _; rotate_left; focus (first | exact Nat.le_refl _ | exact Nat.le_add_right _ _ | (simp; done) | (simp; omega) | omega)) | (with_reducible refine Below.alloc ?_ ?_ _; rotate_left; focus (first | exact Nat.le_refl _ | exact Nat.le_add_right _ _ | (simp; done) | (simp; omega) | omega)) | with_reducible refine Below.drew ?_ | with_reducible refine below_drewN ?_ _ | (with_reducible refine below_nextN ?_ (by with_reducible assumption) ?_; rotate_left; focus (first | exact Nat.le_refl _ | exact Nat.le_add_right _ _ | (simp; done) | (simp; omega) | omega))))); (have := edgesOf_len ns l; omega); (exact boolBlk_made (by simp)); rintro e w5 ⟨rfl, bs, hmk5, hbb5, hg5⟩; have hbel5 : Below w3.heap.size w3 w5 := Below.grown (by repeat (first | with_reducible exact Below.refl _ _ | with_reducible assumption | (with_reducible refine Below.setCell ?_ ?_ _; rotate_left; focus (first | exact Nat.le_refl _ | exact Nat.le_add_right _ _ | (simp; done) | (simp; omega) | omega)) | (with_reducible refine Below.alloc ?_ ?_ _; rotate_left; focus (first | exact Nat.le_refl _ | exact Nat.le_add_right _ _ | (simp; done) | (simp; omega) | omega)) | with_reducible refine Below.drew ?_ | with_reducible refine below_drewN ?_ _ | (with_reducible refine below_nextN ?_ (by with_reducible assumption) ?_; rotate_left; focus (first | exact Nat.le_refl _ | exact Nat.le_add_right _ _ | (simp; done) | (simp; omega) | omega)))) hg5 (by simp; omega) (fun q e => by injection e with e; omega); have hbx5 : Blk w5 w3.heap.size 62 #[.slice A3 ns.length c3, .slice EA (edgesOf ns l).length ec] := Blk.grown ((Blk.new _ _ _).alloc _) hg5 (fun e => by injection e with e; omega); have y0 := hbx5.cell 0; have y1 := hbx5.cell 1; simp only [List.getElem?_toArray, List.getElem?_cons_zero, List.getElem?_cons_succ] at y0 y1; have HMK := Lib.hid hmk5; have HBB := Lib.hid hbb5; have HBX := Lib.hid hbx5; clear hmk5 hbb5 hbx5) | (go_at_call 38; go_must (refine (graph_list A3 c3 ns EA (edgesOf ns l).length ec (w3.heap.size + 1) ns.length bs _ ?_ hnl' ?_ ?_).mono ?_); (exact HS3.out.next hbel5); (exact HBB.out); (have := HMK.out.1; simpa using this); rintro e w6 ⟨⟨A6, c6, rfl, hc6, hs6⟩, hb6⟩; have hx6 : Below w.heap.size w w6 := below_nextN (hx3.trans (hbel5.mono hsz3)) hb6 (by have := hbel5.size; omega)))
      refine leaves_cons (f := 35) (args := #[]) (by simp) (by simp [go_sem]) ?_; refine (idle_At _).mono ?_; rintro e u' w'' ⟨rfl, rfl, rfl⟩; refine ⟨_, results_tmp rfl _ _ _, ?_⟩
      exact ⟨⟨_, A6, c6, by unfold AtOut; rw [HV.out, HW.out]; exact marks_at HNA.out HV.out HMO.out HQ.out rfl HMK.out, rfl, hc6, hs6⟩, hx6⟩
end Go.Proofs.Ytoleifehijccmaa
