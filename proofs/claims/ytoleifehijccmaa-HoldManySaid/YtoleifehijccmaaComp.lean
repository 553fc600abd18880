/-
  Layer 16, the reference: component computes the component of an identifier at a position, for valid links.
-/
import Derived.Test.YtoleifehijccmaaReach
import Derived.Deep.RegionWith
import Derived.Deep.DeepCutAuto
import Derived.Deep.Light
namespace Go.Proofs.Ytoleifehijccmaa
set_option linter.unusedVariables false
open Go.RowKit

/-- What the outer loop knows: p is the list as it was, out the list as it is. -/
structure CInv (l : List Link) (seq : Int) (who : Ident) (p out : List Ident) : Prop where
  asc : Asc out
  has : who ∈ out
  reach : ∀ y ∈ out, Reach l seq who y
  sub : ∀ y ∈ p, y ∈ out
  ascp : Asc p
  clos : ∀ i (h : i < l.length), directB l l[i] i seq = true → l[i].a ∈ p ∨ l[i].b ∈ p → l[i].a ∈ out ∧ l[i].b ∈ out
theorem CInv.start (l : List Link) (seq : Int) (who : Ident) : CInv l seq who [] [who] :=
  ⟨by unfold Asc; simp, by simp, (fun y hy => by simp at hy; subst hy; exact .refl), (fun y hy => by cases hy), by unfold Asc; simp, (fun i h _ h2 => by simp at h2)⟩
theorem CInv.len {l : List Link} {seq : Int} {who : Ident} {p out : List Ident} (h : CInv l seq who p out) : p.length ≤ out.length ∧ out.length ≤ 2 * l.length + 1 :=
  ⟨nodup_le h.ascp.nodup h.sub, by rw [← named_length l who]; exact nodup_le h.asc.nodup fun y hy => (h.reach y hy).named⟩
theorem sub_of_len {α : Type} [DecidableEq α] {p out : List α} (hp : p.Nodup) (hs : ∀ y ∈ p, y ∈ out) (hl : out.length ≤ p.length) (ho : out.Nodup) : ∀ y ∈ out, y ∈ p := by
  intro y hy
  by_cases h : y ∈ p
  · exact h
  · exfalso
    have := nodup_le (l := y :: p) (l' := out) (List.nodup_cons.2 ⟨h, hp⟩) (fun z hz => by
      rcases List.mem_cons.1 hz with e | hz'
      · exact e ▸ hy
      · exact hs z hz')
    simp at this
    omega
theorem CInv.done {l : List Link} {seq : Int} {who : Ident} {p out : List Ident} (h : CInv l seq who p out) (hl : out.length ≤ p.length) : IsAt l who seq out := by
  have hback := sub_of_len h.ascp.nodup h.sub hl h.asc.nodup
  refine ⟨h.asc, fun y => ⟨h.reach y, fun hr => ?_⟩⟩
  refine hr.closed (fun z => z ∈ out) h.has fun a b ha e => ?_
  obtain ⟨i, hi, hd, he⟩ := e
  rcases he with ⟨e1, e2⟩ | ⟨e1, e2⟩
  · rw [← e2]; exact (h.clos i hi hd (.inl (hback _ (e1 ▸ ha)))).2
  · rw [← e2]; exact (h.clos i hi hd (.inr (hback _ (e1 ▸ ha)))).1
/-- What the inner loop knows, m events behind it. -/
structure DInv (l : List Link) (seq : Int) (who : Ident) (out cur : List Ident) (m : Nat) : Prop where
  asc : Asc cur
  reach : ∀ y ∈ cur, Reach l seq who y
  sub : ∀ y ∈ out, y ∈ cur
  clos : ∀ i (h : i < l.length), i < m → directB l l[i] i seq = true → l[i].a ∈ out ∨ l[i].b ∈ out → l[i].a ∈ cur ∧ l[i].b ∈ cur
theorem DInv.start {l : List Link} {seq : Int} {who : Ident} {p out : List Ident} (h : CInv l seq who p out) : DInv l seq who out out 0 :=
  ⟨h.asc, h.reach, fun _ h => h, fun _ _ h => absurd h (by omega)⟩
theorem DInv.stay {l : List Link} {seq : Int} {who : Ident} {out cur : List Ident} {m : Nat} (h : DInv l seq who out cur m) (hm : m < l.length) (hn : ¬ (directB l l[m] m seq = true ∧ (l[m].a ∈ cur ∨ l[m].b ∈ cur))) : DInv l seq who out cur (m + 1) := by
  refine ⟨h.asc, h.reach, h.sub, fun i hi hlt hd ho => ?_⟩
  rcases Nat.lt_or_ge i m with hk | hk
  · exact h.clos i hi hk hd ho
  · obtain rfl : i = m := by omega
    exact absurd ⟨hd, ho.elim (fun a => .inl (h.sub _ a)) (fun a => .inr (h.sub _ a))⟩ hn
theorem DInv.add {l : List Link} {seq : Int} {who : Ident} {out cur : List Ident} {m : Nat} (h : DInv l seq who out cur m) (hv : validLinks l = true) (hw : validId who = true) (hm : m < l.length) (hd : directB l l[m] m seq = true) (ho : l[m].a ∈ cur ∨ l[m].b ∈ cur) :
    DInv l seq who out (insertId (insertId cur l[m].a) l[m].b) (m + 1) ∧ cur.length ≤ (insertId cur l[m].a).length := by
  have hx := validLinks_mem hv l[m] (List.getElem_mem hm)
  have hcv : AllValid cur := fun y hy => (h.reach y hy).valid hv hw
  obtain ⟨s1, m1, l1⟩ := insertId_spec h.asc hcv hx.2.2.1
  have hcv1 : AllValid (insertId cur l[m].a) := fun y hy => ((m1 y).1 hy).elim (fun e => e ▸ hx.2.2.1) (hcv y)
  obtain ⟨s2, m2, l2⟩ := insertId_spec s1 hcv1 hx.2.2.2.1
  have hab : Reach l seq who l[m].a ∧ Reach l seq who l[m].b := by
    rcases ho with ho | ho
    · exact ⟨h.reach _ ho, .step (h.reach _ ho) ⟨m, hm, hd, .inl ⟨rfl, rfl⟩⟩⟩
    · exact ⟨.step (h.reach _ ho) ⟨m, hm, hd, .inr ⟨rfl, rfl⟩⟩, h.reach _ ho⟩
  have hmem : ∀ y, y ∈ insertId (insertId cur l[m].a) l[m].b ↔ y = l[m].b ∨ y = l[m].a ∨ y ∈ cur := fun y => by rw [m2, m1]
  refine ⟨⟨s2, fun y hy => ?_, fun y hy => (hmem y).2 (.inr (.inr (h.sub y hy))), fun i hi hlt hdi hoi => ?_⟩, l1⟩
  · rcases (hmem y).1 hy with e | e | e
    · rw [e]; exact hab.2
    · rw [e]; exact hab.1
    · exact h.reach y e
  · rcases Nat.lt_or_ge i m with hk | hk
    · have := h.clos i hi hk hdi hoi
      exact ⟨(hmem _).2 (.inr (.inr this.1)), (hmem _).2 (.inr (.inr this.2))⟩
    · obtain rfl : i = m := by omega
      exact ⟨(hmem _).2 (.inr (.inl rfl)), (hmem _).2 (.inl rfl)⟩
theorem DInv.fin {l : List Link} {seq : Int} {who : Ident} {p out cur : List Ident} (h : DInv l seq who out cur l.length) (hc : CInv l seq who p out) : CInv l seq who out cur :=
  ⟨h.asc, h.sub _ hc.has, h.reach, h.sub, hc.asc, fun i hi hd ho => h.clos i hi hi hd ho⟩

theorem ref16_HasId {A : Option Addr} {c : Nat} {l : List Ident} (x : Ident) {w : World} (hl : SliceIs w w.heap.size Ident.cells 4 A l) (hn : l.length ≤ 1000000) {r : Bool} (hr : decide (x ∈ l) = r) :
    Calls Try.prog 21 #[.slice A l.length c, .agg #[.string x.ns, .int .i64 x.val.kind, .int .i64 x.val.num, .string x.val.text]] w fun e w' => e = .returned (.bool r) ∧ Below w.heap.size w w' := by
  rw [← hr]
  exact ref16_Has A c l x.ns x.val.kind x.val.num x.val.text w hl hn
theorem ref16_InsertId {A : Option Addr} {c : Nat} {l : List Ident} (x : Ident) {w : World} (hl : SliceIs w w.heap.size Ident.cells 4 A l) (hn : l.length ≤ 1000000) (hcap : l.length ≤ c) :
    Calls Try.prog 73 #[.slice A l.length c, .agg #[.string x.ns, .int .i64 x.val.kind, .int .i64 x.val.num, .string x.val.text]] w fun e w' =>
      (∃ A' c', e = .returned (.slice A' (insertId l x).length c') ∧ (insertId l x).length ≤ c' ∧ SliceIs w' w'.heap.size Ident.cells 4 A' (insertId l x)) ∧ Below w.heap.size w w' :=
  ref16_Insert A c l x.ns x.val.kind x.val.num x.val.text w hl hn hcap
theorem insertId_len (l : List Ident) (x : Ident) : (insertId l x).length ≤ l.length + 1 := by
  unfold insertId
  split
  · omega
  · rw [List.length_append, List.length_cons, List.length_take, List.length_drop]; omega

set_option maxRecDepth 100000 in
set_option maxHeartbeats 2000000 in
theorem ref16_component (A : Option Addr) (c : Nat) (l : List Link) (s : ByteArray) (k n : Int) (t : ByteArray) (seq : Int) (w : World) (hl : SliceIs w w.heap.size Link.cells 10 A l) (hv : validLinks l = true) (hw : validId ⟨s, k, n, t⟩ = true) :
    Calls Try.prog 72 #[.slice A l.length c, .agg #[.string s, .int .i64 k, .int .i64 n, .string t], .int .i64 seq] w fun e w' =>
      (∃ out A' c', IsAt l ⟨s, k, n, t⟩ seq out ∧ e = .returned (.slice A' out.length c') ∧ out.length ≤ c' ∧ SliceIs w' w'.heap.size Ident.cells 4 A' out) ∧ Below w.heap.size w w' := by
  have hlen := validLinks_len hv
  have HV := Lib.hid hv
  have HW := Lib.hid hw
  clear hv hw
  go_enter Try.func72, Try.ntmps72
  go_wp2
  go_loopw [7, 8] (fun vo vn wr => ∃ (p out : List Ident) (A' : Option Addr) (c' : Nat), vo = .slice A' out.length c' ∧ out.length ≤ c' ∧ SliceIs wr wr.heap.size Ident.cells 4 A' out ∧ Below w.heap.size w wr ∧ vn = .int .i64 p.length ∧ CInv l seq ⟨s, k, n, t⟩ p out) (fun _ vn _ => 2 * l.length + 2 - (intOf vn).toNat)
  case atStart => exact ⟨[], [⟨s, k, n, t⟩], _, 1, rfl, by simp, Blk.one (Blk.new' (by simp)) (by simp), by repeat (first | with_reducible exact Below.refl _ _ | with_reducible assumption | (with_reducible refine Below.setCell ?_ ?_ _; rotate_left; focus (first | exact Nat.le_refl _ | exact Nat.le_add_right _ _ | (simp; done) | (simp; omega) | omega)) | (with_reducible refine Below.alloc ?_ ?_ _; rotate_left; focus (first | exact Nat.le_refl _ | exact Nat.le_add_right _ _ | (simp; done) | (simp; omega) | omega)) | with_reducible refine Below.drew ?_ | with_reducible refine below_drewN ?_ _ | (with_reducible refine below_nextN ?_ (by with_reducible assumption) ?_; rotate_left; focus (first | exact Nat.le_refl _ | exact Nat.le_add_right _ _ | (simp; done) | (simp; omega) | omega))), rfl, CInv.start _ _ _⟩
  case round =>
    obtain ⟨p, out, A', c', rfl, hc', ho, hbw, rfl, hinv⟩ := hrel
    have hpl := hinv.len
    have HI := Lib.hid hinv
    clear hinv
    by_cases hlt : p.length < out.length
    · obtain ⟨wo, rfl⟩ : ∃ wo : World, wo = wr := ⟨_, rfl⟩
      go_wp2
      go_loopw [7, 9] (fun vo vi wi => ∃ (cur : List Ident) (A1 : Option Addr) (c1 m : Nat), vo = .slice A1 cur.length c1 ∧ cur.length ≤ c1 ∧ SliceIs wi wi.heap.size Ident.cells 4 A1 cur ∧ Below wo.heap.size wo wi ∧ vi = .int .i64 m ∧ m ≤ l.length ∧ DInv l seq ⟨s, k, n, t⟩ out cur m) (fun _ vi _ => l.length - (intOf vi).toNat)
      case atStart => exact ⟨out, A', c', 0, rfl, hc', ho, Below.refl _ _, rfl, Nat.zero_le _, DInv.start HI.out⟩
      case round =>
        obtain ⟨cur, A1, c1, m, rfl, hc1, hcur, hbi, rfl, hm, hdi⟩ := hrel
        have HD := Lib.hid hdi
        have hcl : cur.length ≤ 2 * l.length + 1 := by rw [← named_length l ⟨s, k, n, t⟩]; exact nodup_le hdi.asc.nodup fun y hy => (hdi.reach y hy).named
        clear hdi
        have hbwi : Below w.heap.size w wr := below_nextN hbw hbi hbw.size
        by_cases hltm : m < l.length
        · have hli := hl.next hbwi
          obtain ⟨b, o, rfl, hb, hc⟩ := hli.get hltm
          obtain ⟨⟨a0, a1, a2, a3⟩, ⟨b0, b1, b2, b3⟩, _, _⟩ := Link.cells10 hc
          clear hc
          cases hd : directB l l[m] m seq
          · have HDB := Lib.hid hd
            go_wp2_with ((go_at_call 90; (with_reducible refine (ref16_direct _ _ l m seq _ hli (by omega) hltm).mono ?_); rintro e w1 ⟨rfl, hb1⟩; rw [hd]))
            clear hd
            go_roundw
            case rel => exact ⟨cur, A1, c1, m + 1, rfl, hc1, hcur.next hb1, below_nextN hbi hb1 hbi.size, by go_num, by omega, HD.out.stay hltm (by rw [HDB.out]; simp)⟩
            case measure => simp [intOf]; omega
          · have HDB := Lib.hid hd
            go_wp2_with ((go_at_call 90; (with_reducible refine (ref16_direct _ _ l m seq _ hli (by omega) hltm).mono ?_); rintro e w1 ⟨rfl, hb1⟩; rw [hd]; have hk1 := (keepB hb1 b hb).1; have hcur1 := hcur.next hb1))
            clear hd
            by_cases ha : l[m].a ∈ cur
            · with_reducible refine (ref16_HasId l[m].a hcur1 (by omega) (decide_eq_true ha)).mono ?_
              rintro e w2 ⟨rfl, hb2⟩
              have hk2 := (keepB hb2 b (by have := hb1.size; omega)).1
              have hcur2 := hcur1.next hb2
              have hsz2 : wr.heap.size ≤ w2.heap.size := by have := hb1.size; have := hb2.size; omega
              have hbel2 : Below wr.heap.size wr w2 := below_nextN hb1 hb2 hb1.size
              have HA := Lib.hid ((HD.out.add HV.out HW.out hltm HDB.out (.inl ha)))
              clear ha
              go_wp2_with fail
              go_region_with (first
                | (go_at_call 73; (with_reducible refine (ref16_InsertId (A := A1) (c := c1) (l := cur) l[m].a ?_ ?_ ?_).mono ?_); exact hcur2; omega; exact hc1; rintro e w3 ⟨⟨A3, c3, rfl, hc3, hs3⟩, hb3⟩; have hk3 := (keepB hb3 b (by first | omega | (simp; omega))).1; have hsz3 : wr.heap.size ≤ w3.heap.size := (by have := hb3.size; first | omega | (simp at this; omega)); have hbel3 : Below wr.heap.size wr w3 := (by first | exact hbel2.drew.trans (hb3.mono hsz2) | exact hbel2.trans (hb3.mono hsz2)))
                | (go_at_call 73; (with_reducible refine (ref16_InsertId (A := A3) (c := c3) (l := insertId cur l[m].a) l[m].b ?_ ?_ ?_).mono ?_); exact hs3; (have := insertId_len cur l[m].a; omega); exact hc3; rintro e w4 ⟨⟨A4, c4, rfl, hc4, hs4⟩, hb4⟩; have hbel4 : Below wr.heap.size wr w4 := (by first | exact hbel3.trans (hb4.mono hsz3) | exact hbel3.drew.trans (hb4.mono hsz3))))
              all_goals go_wp2
              all_goals go_roundw
              all_goals first
                | (case rel => exact ⟨insertId (insertId cur l[m].a) l[m].b, A4, c4, m + 1, rfl, hc4, hs4, hbi.trans (hbel4.mono hbi.size), by go_num, by omega, HA.out.1⟩)
                | skip
              all_goals (simp [intOf]; omega)
            · with_reducible refine (ref16_HasId l[m].a hcur1 (by omega) (decide_eq_false ha)).mono ?_
              rintro e w2' ⟨rfl, hb2'⟩
              have hk2' := (keepB hb2' b (by have := hb1.size; omega)).1
              have hcur2' := hcur1.next hb2'
              have hsz2' : wr.heap.size ≤ w2'.heap.size := by have := hb1.size; have := hb2'.size; omega
              have hbel2' : Below wr.heap.size wr w2' := below_nextN hb1 hb2' hb1.size
              have HNA := Lib.hid ha
              clear ha
              go_wp2_with fail
              by_cases hbm : l[m].b ∈ cur
              · with_reducible refine (ref16_HasId l[m].b hcur2' (by omega) (decide_eq_true hbm)).mono ?_
                rintro e w2 ⟨rfl, hb2⟩
                have hk2 := (keepB hb2 b (by omega)).1
                have hcur2 := hcur2'.next hb2
                have hsz2 : wr.heap.size ≤ w2.heap.size := by have := hb2.size; omega
                have hbel2 : Below wr.heap.size wr w2 := below_nextN hbel2' hb2 hsz2'
                have HA := Lib.hid ((HD.out.add HV.out HW.out hltm HDB.out (.inr hbm)))
                clear hbm
                go_wp2_with fail
                go_region_with (first
                  | (go_at_call 73; (with_reducible refine (ref16_InsertId (A := A1) (c := c1) (l := cur) l[m].a ?_ ?_ ?_).mono ?_); exact hcur2; omega; exact hc1; rintro e w3 ⟨⟨A3, c3, rfl, hc3, hs3⟩, hb3⟩; have hk3 := (keepB hb3 b (by first | omega | (simp; omega))).1; have hsz3 : wr.heap.size ≤ w3.heap.size := (by have := hb3.size; first | omega | (simp at this; omega)); have hbel3 : Below wr.heap.size wr w3 := (by first | exact hbel2.drew.trans (hb3.mono hsz2) | exact hbel2.trans (hb3.mono hsz2)))
                  | (go_at_call 73; (with_reducible refine (ref16_InsertId (A := A3) (c := c3) (l := insertId cur l[m].a) l[m].b ?_ ?_ ?_).mono ?_); exact hs3; (have := insertId_len cur l[m].a; omega); exact hc3; rintro e w4 ⟨⟨A4, c4, rfl, hc4, hs4⟩, hb4⟩; have hbel4 : Below wr.heap.size wr w4 := (by first | exact hbel3.trans (hb4.mono hsz3) | exact hbel3.drew.trans (hb4.mono hsz3))))
                all_goals go_wp2
                all_goals go_roundw
                all_goals first
                  | (case rel => exact ⟨insertId (insertId cur l[m].a) l[m].b, A4, c4, m + 1, rfl, hc4, hs4, hbi.trans (hbel4.mono hbi.size), by go_num, by omega, HA.out.1⟩)
                  | skip
                all_goals (simp [intOf]; omega)
              · with_reducible refine (ref16_HasId l[m].b hcur2' (by omega) (decide_eq_false hbm)).mono ?_
                rintro e w2 ⟨rfl, hb2⟩
                have HNB := Lib.hid hbm
                clear hbm
                go_wp2_with fail
                go_roundw
                case rel => exact ⟨cur, A1, c1, m + 1, rfl, hc1, hcur2'.next hb2, hbi.trans ((hbel2'.trans (hb2.mono hsz2')).mono hbi.size), by go_num, by omega, HD.out.stay hltm (fun hh => hh.2.elim HNA.out HNB.out)⟩
                case measure => simp [intOf]; omega
        · go_wp2
          go_roundw
          case rel => exact ⟨out, cur, A1, c1, rfl, hc1, hcur, hbwi, rfl, by
            have h := HD.out
            obtain rfl : m = l.length := by omega
            exact h.fin HI.out⟩
          case measure => simp [intOf]; omega
    · go_wp2
      go_ret
      exact ⟨⟨out, A', c', HI.out.done (by omega), rfl, hc', ho⟩, hbw⟩
end Go.Proofs.Ytoleifehijccmaa
