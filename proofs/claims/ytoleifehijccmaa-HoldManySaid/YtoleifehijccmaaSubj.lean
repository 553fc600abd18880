/-
  Layer 16, the reference: Subject.
-/
import Derived.Test.YtoleifehijccmaaRef16
namespace Go.Proofs.Ytoleifehijccmaa
set_option linter.unusedVariables false
open Go.RowKit

/-- What the reference's Subject knows, m events behind it. -/
structure SInv (l : List Link) (who : Ident) (seq : Int) (out : List Ident) (m : Nat) : Prop where
  asc : Asc out
  mem : ∀ y, y ∈ out ↔ (Reach l seq who y ∨ ∃ x ∈ l.take m, seq < x.seq ∧ Reach l x.seq who y)
theorem SInv.start {l : List Link} {who : Ident} {seq : Int} {out : List Ident} (h : IsAt l who seq out) : SInv l who seq out 0 :=
  ⟨h.1, fun y => by rw [h.2]; simp⟩
theorem SInv.fin {l : List Link} {who : Ident} {seq : Int} {out : List Ident} {m : Nat} (h : SInv l who seq out m) (hm : l.length ≤ m) : IsSubject l who seq out :=
  ⟨h.asc, fun y => by rw [h.mem, List.take_of_length_le hm]; rfl⟩
theorem SInv.skip {l : List Link} {who : Ident} {seq : Int} {out : List Ident} {m : Nat} (h : SInv l who seq out m) (hm : m < l.length) (hs : l[m].seq ≤ seq) : SInv l who seq out (m + 1) := by
  refine ⟨h.asc, fun y => ?_⟩
  rw [h.mem, List.take_succ_eq_append_getElem hm]
  constructor
  · rintro (h | ⟨x, hx, h⟩)
    · exact .inl h
    · exact .inr ⟨x, List.mem_append_left _ hx, h⟩
  · rintro (h | ⟨x, hx, h1, h2⟩)
    · exact .inl h
    · rcases List.mem_append.1 hx with hx | hx
      · exact .inr ⟨x, hx, h1, h2⟩
      · simp at hx; subst hx; omega
/-- .. with j identifiers of the component xs at event m already inserted. -/
structure TInv (l : List Link) (who : Ident) (seq : Int) (out xs cur : List Ident) (j : Nat) : Prop where
  asc : Asc cur
  mem : ∀ y, y ∈ cur ↔ (y ∈ out ∨ y ∈ xs.take j)
  val : AllValid cur
theorem TInv.step {l : List Link} {who : Ident} {seq : Int} {out xs cur : List Ident} {j : Nat} (h : TInv l who seq out xs cur j) (hj : j < xs.length) (hv : validId xs[j] = true) : TInv l who seq out xs (insertId cur xs[j]) (j + 1) := by
  obtain ⟨s1, m1, _⟩ := insertId_spec h.asc h.val hv
  refine ⟨s1, fun y => ?_, fun y hy => ((m1 y).1 hy).elim (fun e => e ▸ hv) (h.val y)⟩
  rw [m1, h.mem, List.take_succ_eq_append_getElem hj, List.mem_append]
  simp only [List.mem_singleton]
  constructor
  · rintro (h | h | h)
    · exact .inr (.inr h)
    · exact .inl h
    · exact .inr (.inl h)
  · rintro (h | h | h)
    · exact .inr (.inl h)
    · exact .inr (.inr h)
    · exact .inl h
theorem SInv.next {l : List Link} {who : Ident} {seq : Int} {out xs cur : List Ident} {m j : Nat} (h : SInv l who seq out m) (hm : m < l.length) (hs : seq < l[m].seq) (hx : IsAt l who l[m].seq xs) (ht : TInv l who seq out xs cur j) (hj : xs.length ≤ j) : SInv l who seq cur (m + 1) := by
  refine ⟨ht.asc, fun y => ?_⟩
  rw [ht.mem, h.mem, List.take_of_length_le hj, hx.2, List.take_succ_eq_append_getElem hm]
  constructor
  · rintro ((h | ⟨x, hx, h⟩) | h)
    · exact .inl h
    · exact .inr ⟨x, List.mem_append_left _ hx, h⟩
    · exact .inr ⟨l[m], List.mem_append_right _ (by simp), hs, h⟩
  · rintro (h | ⟨x, hx, h1, h2⟩)
    · exact .inl (.inl h)
    · rcases List.mem_append.1 hx with hx | hx
      · exact .inl (.inr ⟨x, hx, h1, h2⟩)
      · simp at hx; subst hx; exact .inr h2
theorem SInv.valid {l : List Link} {who : Ident} {seq : Int} {out : List Ident} {m : Nat} (h : SInv l who seq out m) (hv : validLinks l = true) (hw : validId who = true) : AllValid out := fun y hy => by
  rcases (h.mem y).1 hy with h | ⟨_, _, _, h⟩
  · exact h.valid hv hw
  · exact h.valid hv hw
theorem SInv.len {l : List Link} {who : Ident} {seq : Int} {out : List Ident} {m : Nat} (h : SInv l who seq out m) : out.length ≤ 2 * l.length + 1 := by
  rw [← named_length l who]
  refine nodup_le h.asc.nodup fun y hy => ?_
  rcases (h.mem y).1 hy with h | ⟨_, _, _, h⟩
  · exact h.named
  · exact h.named

set_option maxRecDepth 100000 in
set_option maxHeartbeats 1000000 in
theorem ref16_Subject (A : Option Addr) (c : Nat) (l : List Link) (s : ByteArray) (k n : Int) (t : ByteArray) (seq : Int) (w : World) (hl : SliceIs w w.heap.size Link.cells 10 A l) (hn : l.length ≤ 1000000) (hs : Sane l) (hs' : s.size ≤ 1000000) :
    Calls Try.prog 44 #[.slice A l.length c, .agg #[.string s, .int .i64 k, .int .i64 n, .string t], .int .i64 seq] w fun e w' =>
      (∃ out A' c', SubjectOut l ⟨s, k, n, t⟩ seq out ∧ e = .returned (.slice A' out.length c') ∧ out.length ≤ c' ∧ SliceIs w' w'.heap.size Ident.cells 4 A' out) ∧ Below w.heap.size w w' := by
  have HS := Lib.hid hs
  clear hs
  cases hv : validLinks l
  · have HV := Lib.hid hv
    clear hv
    go_enter Try.func44, Try.ntmps44
    go_wp2_with (go_at_call 41; (with_reducible refine (ref16_ValidR (A := A) (c := c) (l := l) ?_ hn HS.out HV.out).mono ?_); (exact hl.next (by repeat (first | with_reducible exact Below.refl _ _ | with_reducible assumption | (with_reducible refine Below.setCell ?_ ?_ _; rotate_left; focus (first | exact Nat.le_refl _ | exact Nat.le_add_right _ _ | (simp; done) | (simp; omega) | omega)) | (with_reducible refine Below.alloc ?_ ?_ _; rotate_left; focus (first | exact Nat.le_refl _ | exact Nat.le_add_right _ _ | (simp; done) | (simp; omega) | omega)) | with_reducible refine Below.drew ?_ | with_reducible refine below_drewN ?_ _ | (with_reducible refine below_nextN ?_ (by with_reducible assumption) ?_; rotate_left; focus (first | exact Nat.le_refl _ | exact Nat.le_add_right _ _ | (simp; done) | (simp; omega) | omega))))); rintro e w1 ⟨rfl, hb1⟩; obtain ⟨c0, f0, z0⟩ := keepB hb1 w.heap.size (by first | assumption | (simp; done) | (simp; omega) | omega); have hx1 : Below w.heap.size w w1 := below_nextN (by repeat (first | with_reducible exact Below.refl _ _ | with_reducible assumption | (with_reducible refine Below.setCell ?_ ?_ _; rotate_left; focus (first | exact Nat.le_refl _ | exact Nat.le_add_right _ _ | (simp; done) | (simp; omega) | omega)) | (with_reducible refine Below.alloc ?_ ?_ _; rotate_left; focus (first | exact Nat.le_refl _ | exact Nat.le_add_right _ _ | (simp; done) | (simp; omega) | omega)) | with_reducible refine Below.drew ?_ | with_reducible refine below_drewN ?_ _ | (with_reducible refine below_nextN ?_ (by with_reducible assumption) ?_; rotate_left; focus (first | exact Nat.le_refl _ | exact Nat.le_add_right _ _ | (simp; done) | (simp; omega) | omega)))) hb1 (by first | exact Nat.le_refl _ | exact Nat.le_add_right _ _ | assumption | (simp; done) | (simp; omega) | omega))
    go_ret
    exact ⟨⟨[], none, 0, by unfold SubjectOut; rw [HV.out]; rfl, rfl, by simp, SliceIs.nil⟩, hx1⟩
  have HV := Lib.hid hv
  clear hv
  cases hw : validId ⟨s, k, n, t⟩
  · have HW := Lib.hid hw
    clear hw
    go_enter Try.func44, Try.ntmps44
    go_wp2_with (first | (go_at_call 41; (with_reducible refine (ref16_ValidR (A := A) (c := c) (l := l) ?_ hn HS.out HV.out).mono ?_); (exact hl.next (by repeat (first | with_reducible exact Below.refl _ _ | with_reducible assumption | (with_reducible refine Below.setCell ?_ ?_ _; rotate_left; focus (first | exact Nat.le_refl _ | exact Nat.le_add_right _ _ | (simp; done) | (simp; omega) | omega)) | (with_reducible refine Below.alloc ?_ ?_ _; rotate_left; focus (first | exact Nat.le_refl _ | exact Nat.le_add_right _ _ | (simp; done) | (simp; omega) | omega)) | with_reducible refine Below.drew ?_ | with_reducible refine below_drewN ?_ _ | (with_reducible refine below_nextN ?_ (by with_reducible assumption) ?_; rotate_left; focus (first | exact Nat.le_refl _ | exact Nat.le_add_right _ _ | (simp; done) | (simp; omega) | omega))))); rintro e w1 ⟨rfl, hb1⟩; obtain ⟨c0, f0, z0⟩ := keepB hb1 w.heap.size (by first | assumption | (simp; done) | (simp; omega) | omega); have hx1 : Below w.heap.size w w1 := below_nextN (by repeat (first | with_reducible exact Below.refl _ _ | with_reducible assumption | (with_reducible refine Below.setCell ?_ ?_ _; rotate_left; focus (first | exact Nat.le_refl _ | exact Nat.le_add_right _ _ | (simp; done) | (simp; omega) | omega)) | (with_reducible refine Below.alloc ?_ ?_ _; rotate_left; focus (first | exact Nat.le_refl _ | exact Nat.le_add_right _ _ | (simp; done) | (simp; omega) | omega)) | with_reducible refine Below.drew ?_ | with_reducible refine below_drewN ?_ _ | (with_reducible refine below_nextN ?_ (by with_reducible assumption) ?_; rotate_left; focus (first | exact Nat.le_refl _ | exact Nat.le_add_right _ _ | (simp; done) | (simp; omega) | omega)))) hb1 (by first | exact Nat.le_refl _ | exact Nat.le_add_right _ _ | assumption | (simp; done) | (simp; omega) | omega)) | (go_at_call 26; (with_reducible refine (ref16_ValidIdR s k n t _ hs' HW.out).mono ?_); rintro e w2 ⟨rfl, hb2⟩; obtain ⟨c1, f1, z1⟩ := keepE hb2 w.heap.size (by first | assumption | (simp; done) | (simp; omega) | omega); have hx2 : Below w.heap.size w w2 := below_nextN hx1 hb2.1 hx1.size))
    go_ret
    exact ⟨⟨[], none, 0, by unfold SubjectOut; rw [HV.out, HW.out]; rfl, rfl, by simp, SliceIs.nil⟩, hx2⟩
  have HW := Lib.hid hw
  clear hw
  have hlen := validLinks_len HV.out
  go_enter Try.func44, Try.ntmps44
  go_wp2_with (first | (go_at_call 41; (with_reducible refine (ref16_ValidR (A := A) (c := c) (l := l) ?_ hn HS.out HV.out).mono ?_); (exact hl.next (by repeat (first | with_reducible exact Below.refl _ _ | with_reducible assumption | (with_reducible refine Below.setCell ?_ ?_ _; rotate_left; focus (first | exact Nat.le_refl _ | exact Nat.le_add_right _ _ | (simp; done) | (simp; omega) | omega)) | (with_reducible refine Below.alloc ?_ ?_ _; rotate_left; focus (first | exact Nat.le_refl _ | exact Nat.le_add_right _ _ | (simp; done) | (simp; omega) | omega)) | with_reducible refine Below.drew ?_ | with_reducible refine below_drewN ?_ _ | (with_reducible refine below_nextN ?_ (by with_reducible assumption) ?_; rotate_left; focus (first | exact Nat.le_refl _ | exact Nat.le_add_right _ _ | (simp; done) | (simp; omega) | omega))))); rintro e w1 ⟨rfl, hb1⟩; obtain ⟨c0, f0, z0⟩ := keepB hb1 w.heap.size (by first | assumption | (simp; done) | (simp; omega) | omega); have hx1 : Below w.heap.size w w1 := below_nextN (by repeat (first | with_reducible exact Below.refl _ _ | with_reducible assumption | (with_reducible refine Below.setCell ?_ ?_ _; rotate_left; focus (first | exact Nat.le_refl _ | exact Nat.le_add_right _ _ | (simp; done) | (simp; omega) | omega)) | (with_reducible refine Below.alloc ?_ ?_ _; rotate_left; focus (first | exact Nat.le_refl _ | exact Nat.le_add_right _ _ | (simp; done) | (simp; omega) | omega)) | with_reducible refine Below.drew ?_ | with_reducible refine below_drewN ?_ _ | (with_reducible refine below_nextN ?_ (by with_reducible assumption) ?_; rotate_left; focus (first | exact Nat.le_refl _ | exact Nat.le_add_right _ _ | (simp; done) | (simp; omega) | omega)))) hb1 (by first | exact Nat.le_refl _ | exact Nat.le_add_right _ _ | assumption | (simp; done) | (simp; omega) | omega)) | (go_at_call 26; (with_reducible refine (ref16_ValidIdR s k n t _ hs' HW.out).mono ?_); rintro e w2 ⟨rfl, hb2⟩; obtain ⟨c1, f1, z1⟩ := keepE hb2 w.heap.size (by first | assumption | (simp; done) | (simp; omega) | omega); have hx2 : Below w.heap.size w w2 := below_nextN hx1 hb2.1 hx1.size) | (go_at_call 72; (with_reducible refine (ref16_component A c l s k n t seq _ ?_ HV.out HW.out).mono ?_); (exact hl.next hx2); rintro e w3 ⟨⟨out0, A3, c3, hout, rfl, hc3, hs3⟩, hb3⟩; have HOUT := Lib.hid hout; clear hout; have hx3 : Below w.heap.size w w3 := below_nextN hx2 hb3 hx2.size; obtain ⟨c2, f2, z2⟩ := keepB hb3 w.heap.size (by first | assumption | (simp; done) | (simp; omega) | omega)))
  have hbox : ∀ j u, (Ident.cells ⟨s, k, n, t⟩)[j]? = some u → w3.cell? ⟨w.heap.size, 0 + j, none⟩ = some u := fun j u hu => by
    rw [Nat.zero_add, c2, c1, c0]
    simpa [Ident.cells] using hu
  go_loopw [7, 8] (fun vo vi wr => ∃ (out : List Ident) (A' : Option Addr) (c' m : Nat), vo = .slice A' out.length c' ∧ out.length ≤ c' ∧ SliceIs wr wr.heap.size Ident.cells 4 A' out ∧ vi = .int .i64 m ∧ m ≤ l.length ∧ Below w3.heap.size w3 wr ∧ SInv l ⟨s, k, n, t⟩ seq out m) (fun _ vi _ => l.length - (intOf vi).toNat)
  case atStart => exact ⟨out0, A3, c3, 0, rfl, hc3, hs3, rfl, Nat.zero_le _, Below.refl _ _, SInv.start HOUT.out⟩
  case round =>
    obtain ⟨out, A', c', m, rfl, hc', ho, rfl, hm, hbw, hinv⟩ := hrel
    have HI := Lib.hid hinv
    have hol := hinv.len
    clear hinv
    have hbw' : Below w.heap.size w wr := below_nextN hx3 hbw hx3.size
    by_cases hlt : m < l.length
    · have hlr := hl.next hbw'
      obtain ⟨b, o, rfl, hb, hc⟩ := hlr.get hlt
      obtain ⟨_, _, s8, _⟩ := Link.cells10 hc
      clear hc
      by_cases hle : l[m].seq ≤ seq
      · go_wp2_with fail
        go_roundw
        case rel => exact ⟨out, A', c', m + 1, rfl, hc', ho, by go_num, by omega, hbw, HI.out.skip hlt hle⟩
        case measure => simp [intOf]; omega
      · have hgt : seq < l[m].seq := by omega
        obtain ⟨x0, x1, x2, x3⟩ := Ident.cells4 (fun j u hu => (hbw.cell (by exact z2)).trans (hbox j u hu))
        simp only [Nat.zero_add] at x1 x2 x3
        have hzr : w.heap.size < wr.heap.size := by have := hbw.size; omega
        go_wp2_with fail
        go_upto_region 8 with fail
        go_cut [9] (fun vx wc => ∃ (xs : List Ident) (Ax : Option Addr) (cx : Nat), vx = .slice Ax xs.length cx ∧ IsAt l ⟨s, k, n, t⟩ l[m].seq xs ∧ SliceIs wc wc.heap.size Ident.cells 4 Ax xs ∧ Below wr.heap.size wr wc)
        case first =>
          go_region_with (go_at_call 72; (with_reducible refine (ref16_component (some ⟨b, o, none⟩) c l s k n t l[m].seq _ ?_ HV.out HW.out).mono ?_); (exact hlr.next (by repeat (first | with_reducible exact Below.refl _ _ | with_reducible assumption | (with_reducible refine Below.setCell ?_ ?_ _; rotate_left; focus (first | exact Nat.le_refl _ | exact Nat.le_add_right _ _ | (simp; done) | (simp; omega) | omega)) | (with_reducible refine Below.alloc ?_ ?_ _; rotate_left; focus (first | exact Nat.le_refl _ | exact Nat.le_add_right _ _ | (simp; done) | (simp; omega) | omega)) | with_reducible refine Below.drew ?_ | with_reducible refine below_drewN ?_ _ | (with_reducible refine below_nextN ?_ (by with_reducible assumption) ?_; rotate_left; focus (first | exact Nat.le_refl _ | exact Nat.le_add_right _ _ | (simp; done) | (simp; omega) | omega))))); rintro e w4 ⟨⟨xs, A4, c4, hxs, rfl, hc4, hs4⟩, hb4⟩; have HXS := Lib.hid hxs; clear hxs; have hx4 : Below wr.heap.size wr w4 := below_nextN (by repeat (first | with_reducible exact Below.refl _ _ | with_reducible assumption | (with_reducible refine Below.setCell ?_ ?_ _; rotate_left; focus (first | exact Nat.le_refl _ | exact Nat.le_add_right _ _ | (simp; done) | (simp; omega) | omega)) | (with_reducible refine Below.alloc ?_ ?_ _; rotate_left; focus (first | exact Nat.le_refl _ | exact Nat.le_add_right _ _ | (simp; done) | (simp; omega) | omega)) | with_reducible refine Below.drew ?_ | with_reducible refine below_drewN ?_ _ | (with_reducible refine below_nextN ?_ (by with_reducible assumption) ?_; rotate_left; focus (first | exact Nat.le_refl _ | exact Nat.le_add_right _ _ | (simp; done) | (simp; omega) | omega)))) hb4 (by first | exact Nat.le_refl _ | exact Nat.le_add_right _ _ | assumption | (simp; done) | (simp; omega) | omega))
          all_goals (go_wp2_with fail; go_meet; exact ⟨xs, A4, c4, rfl, HXS.out, hs4, hx4⟩)
        case rest =>
          obtain ⟨xs, Ax, cx, rfl, hxs, hsx, hbc⟩ := hcut
          have HXS := Lib.hid hxs
          have hxl : xs.length ≤ 2 * l.length + 1 := by rw [← named_length l ⟨s, k, n, t⟩]; exact nodup_le hxs.1.nodup fun y hy => ((hxs.2 y).1 hy).named
          have HXV := Lib.hid (fun y (hy : y ∈ xs) => ((hxs.2 y).1 hy).valid HV.out HW.out)
          clear hxs
          obtain ⟨wo, rfl⟩ : ∃ wo : World, wo = wr := ⟨_, rfl⟩
          clear x0 x1 x2 x3 s8
          go_wp2_with fail
          go_loopw [7, 10] (fun vo vj wi => ∃ (cur : List Ident) (A1 : Option Addr) (c1 j : Nat), vo = .slice A1 cur.length c1 ∧ cur.length ≤ c1 ∧ SliceIs wi wi.heap.size Ident.cells 4 A1 cur ∧ vj = .int .i64 j ∧ j ≤ xs.length ∧ Below wc.heap.size wc wi ∧ TInv l ⟨s, k, n, t⟩ seq out xs cur j) (fun _ vj _ => xs.length - (intOf vj).toNat)
          case atStart => exact ⟨out, A', c', 0, rfl, hc', ho.next hbc, rfl, Nat.zero_le _, Below.refl _ _, ⟨HI.out.asc, fun y => by simp, HI.out.valid HV.out HW.out⟩⟩
          case round =>
            obtain ⟨cur, A1, c1', j, rfl, hc1, hcur, rfl, hj, hbi, hti⟩ := hrel
            have hcl : cur.length ≤ out.length + xs.length := by
              rw [← List.length_append]
              exact nodup_le hti.asc.nodup fun y hy => ((hti.mem y).1 hy).elim (fun h => List.mem_append_left _ h) (fun h => List.mem_append_right _ (List.mem_of_mem_take h))
            have HT := Lib.hid hti
            clear hti
            by_cases hltj : j < xs.length
            · obtain ⟨bx, ox, rfl, hbx, hcx⟩ := (hsx.next hbi).get hltj
              obtain ⟨q0, q1, q2, q3⟩ := Ident.cells4 hcx
              clear hcx
              go_wp2_with ((go_at_call 73; (with_reducible refine (ref16_InsertId (A := A1) (c := c1') (l := cur) xs[j] hcur ?_ hc1).mono ?_); omega; rintro e w5 ⟨⟨A5, c5, rfl, hc5, hs5⟩, hb5⟩))
              go_roundw
              case rel => exact ⟨insertId cur xs[j], A5, c5, j + 1, rfl, hc5, hs5, by go_num, by omega, below_nextN hbi hb5 hbi.size, HT.out.step hltj (HXV.out _ (List.getElem_mem hltj))⟩
              case measure => simp [intOf]; omega
            · go_wp2_with fail
              go_roundw
              case rel => exact ⟨cur, A1, c1', m + 1, rfl, hc1, hcur, by go_num, by omega, below_nextN hbw (below_nextN hbc hbi hbc.size) hbw.size, HI.out.next hlt hgt HXS.out HT.out (by omega)⟩
              case measure => simp [intOf]; omega
    · go_wp2_with fail
      go_ret
      exact ⟨⟨out, A', c', by unfold SubjectOut; rw [HV.out, HW.out]; exact HI.out.fin (by omega), rfl, hc', ho⟩, hbw'⟩
end Go.Proofs.Ytoleifehijccmaa
