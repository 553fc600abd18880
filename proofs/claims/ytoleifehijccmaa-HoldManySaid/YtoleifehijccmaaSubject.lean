/-
  Layer 16: identity.Subject: the subject of an identifier, for every list of links and every identifier.
-/
import Derived.Test.YtoleifehijccmaaAt
namespace Go.Proofs.Ytoleifehijccmaa
set_option linter.unusedVariables false
open Go.RowKit

theorem idle_Subject (w : World) : CallsD Try.prog 40 #[] .returning w fun e u' w' => e = .returned (.tuple #[]) ∧ u' = .returning ∧ w' = w := by
  refine callsD_of_wpS Try.func40 rfl fun c₀ cs hu => ?_
  apply wpS_region
  cases c₀
  simp_all [wpOpsS, go_sem, recoverD, Try.ntmps40, bodyPostS, results, Try.results40]
/-- What the marks say, m events behind them. -/
def SMarks (l : List Link) (x : Ident) (seq : Int) (ns : List Ident) (bs : List Bool) (m : Nat) : Prop :=
  bs.length = ns.length ∧ ∀ i (h : i < ns.length), bs[i]? = some true ↔ (Reach l seq x ns[i] ∨ ∃ y ∈ l.take m, seq < y.seq ∧ Reach l y.seq x ns[i])
theorem SMarks.start {l : List Link} {x : Ident} {seq : Int} {ns : List Ident} {bs : List Bool} (hn : Names ns l) (hv : validLinks l = true) (hx : x ∈ ns) (hs : seq ≤ 9223372036854775807)
    (h : Marked (List.replicate ns.length false) bs (fun i => Conn (inForce (edgesOf ns l) seq) (insK ns x) i) ns.length) : SMarks l x seq ns bs 0 := by
  refine ⟨by simpa using h.1, fun i hi => ?_⟩
  rw [h.2 i (by simpa using hi), ← conn_reach hn (validLinks_asc hv) hs hx hi]
  constructor
  · rintro (h | h)
    · rw [List.getElem?_replicate, if_pos hi] at h; cases h
    · exact .inl h.2
  · rintro (h | ⟨y, hy, _⟩)
    · exact .inr ⟨hi, h⟩
    · simp at hy
theorem SMarks.skip {l : List Link} {x : Ident} {seq : Int} {ns : List Ident} {bs : List Bool} {m : Nat} (h : SMarks l x seq ns bs m) (hm : m < l.length) (hs : ¬ seq < l[m].seq) : SMarks l x seq ns bs (m + 1) := by
  refine ⟨h.1, fun i hi => ?_⟩
  rw [h.2 i hi, List.take_succ_eq_append_getElem hm]
  constructor
  · rintro (h | ⟨y, hy, h⟩)
    · exact .inl h
    · exact .inr ⟨y, List.mem_append_left _ hy, h⟩
  · rintro (h | ⟨y, hy, h⟩)
    · exact .inl h
    · rcases List.mem_append.1 hy with hy | hy
      · exact .inr ⟨y, hy, h⟩
      · simp at hy; subst hy; exact absurd h.1 hs
theorem SMarks.more {l : List Link} {x : Ident} {seq : Int} {ns : List Ident} {bs bs' : List Bool} {m : Nat} (h : SMarks l x seq ns bs m) (hn : Names ns l) (hv : validLinks l = true) (hx : x ∈ ns) (hm : m < l.length) (hs : seq < l[m].seq)
    (hk : Marked bs bs' (fun i => Conn (inForce (edgesOf ns l) l[m].seq) (insK ns x) i) ns.length) : SMarks l x seq ns bs' (m + 1) := by
  have hq : l[m].seq ≤ 9223372036854775807 := by have := (validLinks_mem hv l[m] (List.getElem_mem hm)).2.1; omega
  refine ⟨hk.1.trans h.1, fun i hi => ?_⟩
  rw [hk.2 i (by rw [h.1]; exact hi), h.2 i hi]
  simp only [conn_reach hn (validLinks_asc hv) hq hx hi]
  rw [List.take_succ_eq_append_getElem hm]
  constructor
  · rintro ((h | ⟨y, hy, h⟩) | h)
    · exact .inl h
    · exact .inr ⟨y, List.mem_append_left _ hy, h⟩
    · exact .inr ⟨l[m], List.mem_append_right _ (by simp), hs, h.2⟩
  · rintro (h | ⟨y, hy, h⟩)
    · exact .inl (.inl h)
    · rcases List.mem_append.1 hy with hy | hy
      · exact .inl (.inr ⟨y, hy, h⟩)
      · simp at hy; subst hy; exact .inr ⟨hi, h.2⟩
theorem SMarks.fin {l : List Link} {x : Ident} {seq : Int} {ns : List Ident} {bs : List Bool} (h : SMarks l x seq ns bs l.length) (hn : Names ns l) (hx : x ∈ ns) : IsSubject l x seq (keepTo ns bs ns.length) := by
  refine marks_list hn.asc h.1 (fun y hy => ?_) fun i hi => ?_
  · rcases hy with hy | ⟨z, _, _, hy⟩
    · exact reach_names hn hx hy
    · exact reach_names hn hx hy
  · rw [h.2 i hi, List.take_length]
    rfl

set_option maxRecDepth 100000 in
set_option maxHeartbeats 2000000 in
theorem identity_Subject (A : Option Addr) (c : Nat) (l : List Link) (x : Ident) (seq : Int) (w : World) (hl : SliceIs w w.heap.size Link.cells 10 A l) (hn : l.length ≤ 1000000) (hs : Sane l) (hs' : x.ns.size ≤ 1000000) (hseq : seq ≤ 9223372036854775807) :
    Calls Try.prog 19 #[.slice A l.length c, .agg #[.string x.ns, .int .i64 x.val.kind, .int .i64 x.val.num, .string x.val.text], .int .i64 seq] w fun e w' =>
      (∃ out A' c', SubjectOut l x seq out ∧ e = .returned (.slice A' out.length c') ∧ out.length ≤ c' ∧ SliceIs w' w'.heap.size Ident.cells 4 A' out) ∧ Below w.heap.size w w' := by
  have HS := Lib.hid hs
  have HL := Lib.hid hl
  have HQ := Lib.hid hseq
  clear hs hl hseq
  cases hv : validLinks l
  · have HV := Lib.hid hv
    clear hv
    go_enter_defers Try.func19, Try.ntmps19
    go_wp2_with (go_at_call 12; go_must (with_reducible refine (identity_ValidR (A := A) (c := c) (l := l) ?_ hn HS.out HV.out).mono ?_); (exact HL.out.next (by repeat (first | with_reducible exact Below.refl _ _ | with_reducible assumption | (with_reducible refine Below.setCell ?_ ?_ _; rotate_left; focus (first | exact Nat.le_refl _ | exact Nat.le_add_right _ _ | (simp; done) | (simp; omega) | omega)) | (with_reducible refine Below.alloc ?_ ?_ _; rotate_left; focus (first | exact Nat.le_refl _ | exact Nat.le_add_right _ _ | (simp; done) | (simp; omega) | omega)) | with_reducible refine Below.drew ?_ | with_reducible refine below_drewN ?_ _ | (with_reducible refine below_nextN ?_ (by with_reducible assumption) ?_; rotate_left; focus (first | exact Nat.le_refl _ | exact Nat.le_add_right _ _ | (simp; done) | (simp; omega) | omega))))); rintro e w1 ⟨rfl, hb1⟩; obtain ⟨c0, f0, z0⟩ := keepB hb1 w.heap.size (by first | assumption | (simp; done) | (simp; omega) | omega); have hx1 : Below w.heap.size w w1 := below_nextN (by repeat (first | with_reducible exact Below.refl _ _ | with_reducible assumption | (with_reducible refine Below.setCell ?_ ?_ _; rotate_left; focus (first | exact Nat.le_refl _ | exact Nat.le_add_right _ _ | (simp; done) | (simp; omega) | omega)) | (with_reducible refine Below.alloc ?_ ?_ _; rotate_left; focus (first | exact Nat.le_refl _ | exact Nat.le_add_right _ _ | (simp; done) | (simp; omega) | omega)) | with_reducible refine Below.drew ?_ | with_reducible refine below_drewN ?_ _ | (with_reducible refine below_nextN ?_ (by with_reducible assumption) ?_; rotate_left; focus (first | exact Nat.le_refl _ | exact Nat.le_add_right _ _ | (simp; done) | (simp; omega) | omega)))) hb1 (by first | exact Nat.le_refl _ | exact Nat.le_add_right _ _ | assumption | (simp; done) | (simp; omega) | omega))
    refine leaves_cons (f := 40) (args := #[]) (by simp) (by simp [go_sem]) ?_; refine (idle_Subject _).mono ?_; rintro e u' w'' ⟨rfl, rfl, rfl⟩; refine ⟨_, results_tmp rfl _ _ _, ?_⟩
    exact ⟨⟨[], none, 0, by unfold SubjectOut; rw [HV.out]; rfl, rfl, by simp, SliceIs.nil⟩, hx1⟩
  · have HV := Lib.hid hv
    clear hv
    cases hw : validId x
    · have HW := Lib.hid hw
      clear hw
      go_enter_defers Try.func19, Try.ntmps19
      go_wp2_with (first | (go_at_call 12; go_must (with_reducible refine (identity_ValidR (A := A) (c := c) (l := l) ?_ hn HS.out HV.out).mono ?_); (exact HL.out.next (by repeat (first | with_reducible exact Below.refl _ _ | with_reducible assumption | (with_reducible refine Below.setCell ?_ ?_ _; rotate_left; focus (first | exact Nat.le_refl _ | exact Nat.le_add_right _ _ | (simp; done) | (simp; omega) | omega)) | (with_reducible refine Below.alloc ?_ ?_ _; rotate_left; focus (first | exact Nat.le_refl _ | exact Nat.le_add_right _ _ | (simp; done) | (simp; omega) | omega)) | with_reducible refine Below.drew ?_ | with_reducible refine below_drewN ?_ _ | (with_reducible refine below_nextN ?_ (by with_reducible assumption) ?_; rotate_left; focus (first | exact Nat.le_refl _ | exact Nat.le_add_right _ _ | (simp; done) | (simp; omega) | omega))))); rintro e w1 ⟨rfl, hb1⟩; obtain ⟨c0, f0, z0⟩ := keepB hb1 w.heap.size (by first | assumption | (simp; done) | (simp; omega) | omega); have hx1 : Below w.heap.size w w1 := below_nextN (by repeat (first | with_reducible exact Below.refl _ _ | with_reducible assumption | (with_reducible refine Below.setCell ?_ ?_ _; rotate_left; focus (first | exact Nat.le_refl _ | exact Nat.le_add_right _ _ | (simp; done) | (simp; omega) | omega)) | (with_reducible refine Below.alloc ?_ ?_ _; rotate_left; focus (first | exact Nat.le_refl _ | exact Nat.le_add_right _ _ | (simp; done) | (simp; omega) | omega)) | with_reducible refine Below.drew ?_ | with_reducible refine below_drewN ?_ _ | (with_reducible refine below_nextN ?_ (by with_reducible assumption) ?_; rotate_left; focus (first | exact Nat.le_refl _ | exact Nat.le_add_right _ _ | (simp; done) | (simp; omega) | omega)))) hb1 (by first | exact Nat.le_refl _ | exact Nat.le_add_right _ _ | assumption | (simp; done) | (simp; omega) | omega)) | (go_at_call 25; go_must (with_reducible refine (identity_ValidId x _ hs' HW.out).mono ?_); rintro e w2 ⟨rfl, hb2⟩; obtain ⟨c1, f1, z1⟩ := keepE hb2 w.heap.size (by first | assumption | (simp; done) | (simp; omega) | omega); have hx2 : Below w.heap.size w w2 := below_nextN hx1 hb2.1 hx1.size; have hsz2 := hx2.size))
      refine leaves_cons (f := 40) (args := #[]) (by simp) (by simp [go_sem]) ?_; refine (idle_Subject _).mono ?_; rintro e u' w'' ⟨rfl, rfl, rfl⟩; refine ⟨_, results_tmp rfl _ _ _, ?_⟩
      exact ⟨⟨[], none, 0, by unfold SubjectOut; rw [HV.out, HW.out]; rfl, rfl, by simp, SliceIs.nil⟩, hx2⟩
    · have HW := Lib.hid hw
      clear hw
      go_enter_defers Try.func19, Try.ntmps19
      go_wp2_with (first | (go_at_call 12; go_must (with_reducible refine (identity_ValidR (A := A) (c := c) (l := l) ?_ hn HS.out HV.out).mono ?_); (exact HL.out.next (by repeat (first | with_reducible exact Below.refl _ _ | with_reducible assumption | (with_reducible refine Below.setCell ?_ ?_ _; rotate_left; focus (first | exact Nat.le_refl _ | exact Nat.le_add_right _ _ | (simp; done) | (simp; omega) | omega)) | (with_reducible refine Below.alloc ?_ ?_ _; rotate_left; focus (first | exact Nat.le_refl _ | exact Nat.le_add_right _ _ | (simp; done) | (simp; omega) | omega)) | with_reducible refine Below.drew ?_ | with_reducible refine below_drewN ?_ _ | (with_reducible refine below_nextN ?_ (by with_reducible assumption) ?_; rotate_left; focus (first | exact Nat.le_refl _ | exact Nat.le_add_right _ _ | (simp; done) | (simp; omega) | omega))))); rintro e w1 ⟨rfl, hb1⟩; obtain ⟨c0, f0, z0⟩ := keepB hb1 w.heap.size (by first | assumption | (simp; done) | (simp; omega) | omega); have hx1 : Below w.heap.size w w1 := below_nextN (by repeat (first | with_reducible exact Below.refl _ _ | with_reducible assumption | (with_reducible refine Below.setCell ?_ ?_ _; rotate_left; focus (first | exact Nat.le_refl _ | exact Nat.le_add_right _ _ | (simp; done) | (simp; omega) | omega)) | (with_reducible refine Below.alloc ?_ ?_ _; rotate_left; focus (first | exact Nat.le_refl _ | exact Nat.le_add_right _ _ | (simp; done) | (simp; omega) | omega)) | with_reducible refine Below.drew ?_ | with_reducible refine below_drewN ?_ _ | (with_reducible refine below_nextN ?_ (by with_reducible assumption) ?_; rotate_left; focus (first | exact Nat.le_refl _ | exact Nat.le_add_right _ _ | (simp; done) | (simp; omega) | omega)))) hb1 (by first | exact Nat.le_refl _ | exact Nat.le_add_right _ _ | assumption | (simp; done) | (simp; omega) | omega)) | (go_at_call 25; go_must (with_reducible refine (identity_ValidId x _ hs' HW.out).mono ?_); rintro e w2 ⟨rfl, hb2⟩; obtain ⟨c1, f1, z1⟩ := keepE hb2 w.heap.size (by first | assumption | (simp; done) | (simp; omega) | omega); have hx2 : Below w.heap.size w w2 := below_nextN hx1 hb2.1 hx1.size; have hsz2 := hx2.size) | (go_at_call 36; go_must (refine (newGraph_anyN A c l w2.heap.size 0 1 1 [x] _ ?_ HV.out ?_ rfl (by omega) (by omega) ?_).mono ?_); (exact HL.out.next (by repeat (first | with_reducible exact Below.refl _ _ | with_reducible assumption | (with_reducible refine Below.setCell ?_ ?_ _; rotate_left; focus (first | exact Nat.le_refl _ | exact Nat.le_add_right _ _ | (simp; done) | (simp; omega) | omega)) | (with_reducible refine Below.alloc ?_ ?_ _; rotate_left; focus (first | exact Nat.le_refl _ | exact Nat.le_add_right _ _ | (simp; done) | (simp; omega) | omega)) | with_reducible refine Below.drew ?_ | with_reducible refine below_drewN ?_ _ | (with_reducible refine below_nextN ?_ (by with_reducible assumption) ?_; rotate_left; focus (first | exact Nat.le_refl _ | exact Nat.le_add_right _ _ | (simp; done) | (simp; omega) | omega))))); (exact Blk.one (Blk.new' rfl) (by simp)); (exact fun y hy => by simp at hy; subst hy; exact HW.out); rintro e w3 ⟨⟨v3, rfl, A3, c3, EA, ec, ns, rfl, hs3, hsE, hna, hmore, hnl⟩, hb3⟩; obtain ⟨c2, f2, z2⟩ := keepB hb3 w.heap.size (by first | assumption | (simp; done) | (simp; omega) | omega); have hx3 : Below w.heap.size w w3 := below_nextN (by repeat (first | with_reducible exact Below.refl _ _ | with_reducible assumption | (with_reducible refine Below.setCell ?_ ?_ _; rotate_left; focus (first | exact Nat.le_refl _ | exact Nat.le_add_right _ _ | (simp; done) | (simp; omega) | omega)) | (with_reducible refine Below.alloc ?_ ?_ _; rotate_left; focus (first | exact Nat.le_refl _ | exact Nat.le_add_right _ _ | (simp; done) | (simp; omega) | omega)) | with_reducible refine Below.drew ?_ | with_reducible refine below_drewN ?_ _ | (with_reducible refine below_nextN ?_ (by with_reducible assumption) ?_; rotate_left; focus (first | exact Nat.le_refl _ | exact Nat.le_add_right _ _ | (simp; done) | (simp; omega) | omega)))) hb3 (by first | exact Nat.le_refl _ | exact Nat.le_add_right _ _ | assumption | (simp; done) | (simp; omega) | omega); have hsz3 := hx3.size; have hzx3 : w.heap.size < w3.heap.size := (by first | assumption | (simp; done) | (simp; omega) | omega); have hnl' : ns.length ≤ 1000000 := (by have := validLinks_len HV.out; simp at hnl; omega); have hmk := mkBools ns.length hnl'; have HS3 := Lib.hid hs3; have HSE := Lib.hid hsE; have HNA := Lib.hid hna; have HMO := Lib.hid (hmore x (by simp)); clear hs3 hsE hna hmore hnl) | (go_at_call 37; go_must (refine (graph_choose A3 c3 ns EA ec (edgesOf ns l) (w3.heap.size + 1) ns.length (List.replicate ns.length false) x seq _ ?_ hnl' HNA.out.asc (insK_mem HNA.out.asc HNA.out.valid HMO.out).1 ?_ ?_ (edgesOf_range HNA.out.asc HNA.out.valid HNA.out.ends) ?_ (by simp)).mono ?_); (exact HS3.out.next (by repeat (first | with_reducible exact Below.refl _ _ | with_reducible assumption | (with_reducible refine Below.setCell ?_ ?_ _; rotate_left; focus (first | exact Nat.le_refl _ | exact Nat.le_add_right _ _ | (simp; done) | (simp; omega) | omega)) | (with_reducible refine Below.alloc ?_ ?_ _; rotate_left; focus (first | exact Nat.le_refl _ | exact Nat.le_add_right _ _ | (simp; done) | (simp; omega) | omega)) | with_reducible refine Below.drew ?_ | with_reducible refine below_drewN ?_ _ | (with_reducible refine below_nextN ?_ (by with_reducible assumption) ?_; rotate_left; focus (first | exact Nat.le_refl _ | exact Nat.le_add_right _ _ | (simp; done) | (simp; omega) | omega))))); (exact HSE.out.next (by repeat (first | with_reducible exact Below.refl _ _ | with_reducible assumption | (with_reducible refine Below.setCell ?_ ?_ _; rotate_left; focus (first | exact Nat.le_refl _ | exact Nat.le_add_right _ _ | (simp; done) | (simp; omega) | omega)) | (with_reducible refine Below.alloc ?_ ?_ _; rotate_left; focus (first | exact Nat.le_refl _ | exact Nat.le_add_right _ _ | (simp; done) | (simp; omega) | omega)) | with_reducible refine Below.drew ?_ | with_reducible refine below_drewN ?_ _ | (with_reducible refine below_nextN ?_ (by with_reducible assumption) ?_; rotate_left; focus (first | exact Nat.le_refl _ | exact Nat.le_add_right _ _ | (simp; done) | (simp; omega) | omega))))); (have := edgesOf_len ns l; omega); (exact boolBlk_made (by simp)); rintro e w5 ⟨rfl, bs, hmk5, hbb5, hg5⟩; have hbel5 : Below w3.heap.size w3 w5 := Below.grown (by repeat (first | with_reducible exact Below.refl _ _ | with_reducible assumption | (with_reducible refine Below.setCell ?_ ?_ _; rotate_left; focus (first | exact Nat.le_refl _ | exact Nat.le_add_right _ _ | (simp; done) | (simp; omega) | omega)) | (with_reducible refine Below.alloc ?_ ?_ _; rotate_left; focus (first | exact Nat.le_refl _ | exact Nat.le_add_right _ _ | (simp; done) | (simp; omega) | omega)) | with_reducible refine Below.drew ?_ | with_reducible refine below_drewN ?_ _ | (with_reducible refine below_nextN ?_ (by with_reducible assumption) ?_; rotate_left; focus (first | exact Nat.le_refl _ | exact Nat.le_add_right _ _ | (simp; done) | (simp; omega) | omega)))) hg5 (by simp; omega) (fun q e => by injection e with e; omega); have hbx5 : Blk w5 w3.heap.size 62 #[.slice A3 ns.length c3, .slice EA (edgesOf ns l).length ec] := Blk.grown ((Blk.new _ _ _).alloc _) hg5 (fun e => by injection e with e; omega); have y0 := hbx5.cell 0; have y1 := hbx5.cell 1; simp only [List.getElem?_toArray, List.getElem?_cons_zero, List.getElem?_cons_succ] at y0 y1; have HMK := Lib.hid hmk5; have HBB := Lib.hid hbb5; have HBX := Lib.hid hbx5; clear hmk5 hbb5 hbx5))
      go_loopw [34] (fun vi wr => ∃ (m : Nat) (bs : List Bool), m ≤ l.length ∧ vi = .int .i64 m ∧ BoolBlk wr (w3.heap.size + 1) bs ∧ SMarks l x seq ns bs m ∧ Below w3.heap.size w3 wr ∧ Blk wr w3.heap.size 62 #[.slice A3 ns.length c3, .slice EA (edgesOf ns l).length ec]) (fun vi _ => l.length - (intOf vi).toNat)
      case atStart => exact ⟨0, bs, Nat.zero_le _, rfl, HBB.out, SMarks.start HNA.out HV.out HMO.out HQ.out HMK.out, hbel5, HBX.out⟩
      case round =>
        clear y0 y1
        obtain ⟨m, bs2, hm, rfl, hB, hsm, hbw, hbox⟩ := hrel
        have hkx : ∀ o, wr.cell? ⟨w.heap.size, o, none⟩ = w3.cell? ⟨w.heap.size, o, none⟩ := fun o => hbw.cell (p := ⟨w.heap.size, o, none⟩) hzx3
        have y0 := hbox.cell 0
        have y1 := hbox.cell 1
        simp only [List.getElem?_toArray, List.getElem?_cons_zero, List.getElem?_cons_succ] at y0 y1
        have hzr := Blk.lt hB
        have hzr2 : w3.heap.size < wr.heap.size := by omega
        have hzr3 : w.heap.size < wr.heap.size := by omega
        have HB := Lib.hid hB
        have HSM := Lib.hid hsm
        have HBO := Lib.hid hbox
        clear hB hsm hbox
        by_cases hlt : m < l.length
        · obtain ⟨b, o, rfl, hb, hc⟩ := ((HL.out.below hx3).below (hbw.mono (by omega))).get hlt
          obtain ⟨⟨h0, h1, h2, h3⟩, ⟨h4, h5, h6, h7⟩, h8, h9⟩ := Link.cells10 hc
          clear hc
          by_cases hsq : seq < l[m].seq
          · go_wp2_with (go_at_call 37; go_must (refine (graph_choose A3 c3 ns EA ec (edgesOf ns l) (w3.heap.size + 1) ns.length bs2 x l[m].seq _ ?_ hnl' HNA.out.asc (insK_mem HNA.out.asc HNA.out.valid HMO.out).1 ?_ ?_ (edgesOf_range HNA.out.asc HNA.out.valid HNA.out.ends) ?_ HSM.out.1).mono ?_); (exact HS3.out.next (by repeat (first | with_reducible exact Below.refl _ _ | with_reducible assumption | (with_reducible refine Below.setCell ?_ ?_ _; rotate_left; focus (first | exact Nat.le_refl _ | exact Nat.le_add_right _ _ | (simp; done) | (simp; omega) | omega)) | (with_reducible refine Below.alloc ?_ ?_ _; rotate_left; focus (first | exact Nat.le_refl _ | exact Nat.le_add_right _ _ | (simp; done) | (simp; omega) | omega)) | with_reducible refine Below.drew ?_ | with_reducible refine below_drewN ?_ _ | (with_reducible refine below_nextN ?_ (by with_reducible assumption) ?_; rotate_left; focus (first | exact Nat.le_refl _ | exact Nat.le_add_right _ _ | (simp; done) | (simp; omega) | omega))))); (exact HSE.out.next (by repeat (first | with_reducible exact Below.refl _ _ | with_reducible assumption | (with_reducible refine Below.setCell ?_ ?_ _; rotate_left; focus (first | exact Nat.le_refl _ | exact Nat.le_add_right _ _ | (simp; done) | (simp; omega) | omega)) | (with_reducible refine Below.alloc ?_ ?_ _; rotate_left; focus (first | exact Nat.le_refl _ | exact Nat.le_add_right _ _ | (simp; done) | (simp; omega) | omega)) | with_reducible refine Below.drew ?_ | with_reducible refine below_drewN ?_ _ | (with_reducible refine below_nextN ?_ (by with_reducible assumption) ?_; rotate_left; focus (first | exact Nat.le_refl _ | exact Nat.le_add_right _ _ | (simp; done) | (simp; omega) | omega))))); (have := edgesOf_len ns l; omega); (exact Blk.alloc HB.out _); rintro e w6 ⟨rfl, bs6, hmk6, hbb6, hg6⟩; have HMK6 := Lib.hid hmk6; have HBB6 := Lib.hid hbb6; clear hmk6 hbb6)
            go_roundw
            case rel => exact ⟨m + 1, bs6, by omega, by go_num, HBB6.out, HSM.out.more HNA.out HV.out HMO.out hlt hsq HMK6.out, Below.grown (by repeat (first | with_reducible exact Below.refl _ _ | with_reducible assumption | (with_reducible refine Below.setCell ?_ ?_ _; rotate_left; focus (first | exact Nat.le_refl _ | exact Nat.le_add_right _ _ | (simp; done) | (simp; omega) | omega)) | (with_reducible refine Below.alloc ?_ ?_ _; rotate_left; focus (first | exact Nat.le_refl _ | exact Nat.le_add_right _ _ | (simp; done) | (simp; omega) | omega)) | with_reducible refine Below.drew ?_ | with_reducible refine below_drewN ?_ _ | (with_reducible refine below_nextN ?_ (by with_reducible assumption) ?_; rotate_left; focus (first | exact Nat.le_refl _ | exact Nat.le_add_right _ _ | (simp; done) | (simp; omega) | omega)))) hg6 (by simp; omega) (fun q e => by injection e with e; omega), Blk.grown (HBO.out.alloc _) hg6 (fun e => by injection e with e; omega)⟩
            case measure => simp [intOf]; omega
          · go_wp2
            go_roundw
            case rel => exact ⟨m + 1, bs2, by omega, by go_num, Blk.alloc HB.out _, HSM.out.skip hlt hsq, by repeat (first | with_reducible exact Below.refl _ _ | with_reducible assumption | (with_reducible refine Below.setCell ?_ ?_ _; rotate_left; focus (first | exact Nat.le_refl _ | exact Nat.le_add_right _ _ | (simp; done) | (simp; omega) | omega)) | (with_reducible refine Below.alloc ?_ ?_ _; rotate_left; focus (first | exact Nat.le_refl _ | exact Nat.le_add_right _ _ | (simp; done) | (simp; omega) | omega)) | with_reducible refine Below.drew ?_ | with_reducible refine below_drewN ?_ _ | (with_reducible refine below_nextN ?_ (by with_reducible assumption) ?_; rotate_left; focus (first | exact Nat.le_refl _ | exact Nat.le_add_right _ _ | (simp; done) | (simp; omega) | omega))), HBO.out.alloc _⟩
            case measure => simp [intOf]; omega
        · obtain rfl : m = l.length := by omega
          go_wp2_with (go_at_call 38; go_must (refine (graph_list A3 c3 ns EA (edgesOf ns l).length ec (w3.heap.size + 1) ns.length bs2 _ ?_ hnl' ?_ ?_).mono ?_); (exact HS3.out.next hbw); (exact HB.out); (exact HSM.out.1); rintro e w6 ⟨⟨A6, c6, rfl, hc6, hs6⟩, hb6⟩; have hx6 : Below w.heap.size w w6 := below_nextN (hx3.trans (hbw.mono hsz3)) hb6 (by have := hbw.size; omega))
          refine leaves_cons (f := 40) (args := #[]) (by simp) (by simp [go_sem]) ?_; refine (idle_Subject _).mono ?_; rintro e u' w'' ⟨rfl, rfl, rfl⟩; refine ⟨_, results_tmp rfl _ _ _, ?_⟩
          exact ⟨⟨_, A6, c6, by unfold SubjectOut; rw [HV.out, HW.out]; exact HSM.out.fin HNA.out HMO.out, rfl, hc6, hs6⟩, hx6⟩
end Go.Proofs.Ytoleifehijccmaa
