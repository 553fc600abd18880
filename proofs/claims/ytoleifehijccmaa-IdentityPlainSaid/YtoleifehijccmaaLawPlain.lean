/-
  The law IdentityPlain.
-/
import Derived.Test.YtoleifehijccmaaLooks
import Derived.Test.YtoleifehijccmaaSpoil
import Derived.Test.YtoleifehijccmaaPlainM
namespace Go.Proofs.Ytoleifehijccmaa
set_option linter.unusedVariables false
open Go.RowKit

section
variable {α : Type} {w : World} {base : Nat} {e : TypeId} {enc : α → List Value} {k : Nat} {l : List α} {g n cap : Nat}
theorem Owns.some_of {A : Option Addr} (h : Owns w base e enc k (.slice A n cap) l) (hl : 0 < l.length) : ∃ g, A = some ⟨g, 0, none⟩ := by
  rcases h.2 with ⟨_, h0⟩ | ⟨g, cap, cur, hv, _⟩
  · omega
  · injection hv with h1
    exact ⟨g, h1⟩
theorem Owns.getN (hk : ∀ x, (enc x).length = k) (h : Owns w base e enc k (.slice (some ⟨g, 0, none⟩) n cap) l) (hn : n = l.length) {i : Nat} (hi : i < l.length) {j : Nat} {u : Value} (hu : (enc l[i])[j]? = some u) : w.cell? ⟨g, i * k + j, none⟩ = some u := by
  subst hn
  exact h.getc hk hi hu
theorem Owns.getS (hk : ∀ x, (enc x).length = k) {i : Nat} {y : α} (h : Owns w base e enc k (.slice (some ⟨g, 0, none⟩) n cap) (l.set i y)) (hn : n = l.length) (hi : i < l.length) {j : Nat} {u : Value} (hu : (enc y)[j]? = some u) : w.cell? ⟨g, i * k + j, none⟩ = some u :=
  h.getN hk (by rw [List.length_set]; exact hn) (i := i) (by rw [List.length_set]; exact hi) (by rw [List.getElem_set_self]; exact hu)
theorem Owns.frzN (h : Owns w base e enc k (.slice (some ⟨g, 0, none⟩) n cap) l) (hn : n = l.length) (j : Nat) : w.frozen? ⟨g, j, none⟩ = false := by
  subst hn
  exact h.frz j
theorem Owns.ltN (h : Owns w base e enc k (.slice (some ⟨g, 0, none⟩) n cap) l) (hn : n = l.length) : base ≤ g ∧ g < w.heap.size := by
  subst hn
  exact h.blk_lt
end
theorem far_of {g h o n c : Nat} (hne : g ≠ h) : ∀ q, (Value.slice (some ⟨g, o, none⟩) n c).ownBlock = some q → q ≠ h := by
  intro q hq
  have h1 : g = q := Option.some.inj hq
  omega
section
variable {w : World} {base g n cap i : Nat} {l : List Link}
/-- A whole link is stored into an own slice. -/
theorem Owns.putLink (h : Owns w base 29 Link.cells 10 (.slice (some ⟨g, 0, none⟩) n cap) l) (hn : n = l.length) (hi : i < l.length) (x : Link) :
    Owns ((((((((((w.setCell ⟨g, i * 10, none⟩ (.string x.a.ns)).setCell ⟨g, i * 10 + 1, none⟩ (.int .i64 x.a.val.kind)).setCell ⟨g, i * 10 + 2, none⟩ (.int .i64 x.a.val.num)).setCell ⟨g, i * 10 + 3, none⟩ (.string x.a.val.text)).setCell ⟨g, i * 10 + 4, none⟩ (.string x.b.ns)).setCell ⟨g, i * 10 + 5, none⟩ (.int .i64 x.b.val.kind)).setCell ⟨g, i * 10 + 6, none⟩ (.int .i64 x.b.val.num)).setCell ⟨g, i * 10 + 7, none⟩ (.string x.b.val.text)).setCell ⟨g, i * 10 + 8, none⟩ (.int .i64 x.seq)).setCell ⟨g, i * 10 + 9, none⟩ (.bool x.rev)) base 29 Link.cells 10 (.slice (some ⟨g, 0, none⟩) n cap) (l.set i x) := by
  have h0 := h.store1 link_len hn hi ⟨⟨x.a.ns, l[i].a.val⟩, l[i].b, l[i].seq, l[i].rev⟩ (j := 0) (o := i * 10) (u := .string x.a.ns) (by omega) rfl rfl
  have h1 := h0.store1 link_len (by simpa using hn) (i := i) (by simpa using hi) ⟨⟨x.a.ns, ⟨x.a.val.kind, l[i].a.val.num, l[i].a.val.text⟩⟩, l[i].b, l[i].seq, l[i].rev⟩ (j := 1) (o := i * 10 + 1) (u := .int .i64 x.a.val.kind) (by omega) rfl (by simp [Link.cells])
  have h2 := h1.store1 link_len (by simpa using hn) (i := i) (by simpa using hi) ⟨⟨x.a.ns, ⟨x.a.val.kind, x.a.val.num, l[i].a.val.text⟩⟩, l[i].b, l[i].seq, l[i].rev⟩ (j := 2) (o := i * 10 + 2) (u := .int .i64 x.a.val.num) (by omega) rfl (by simp [Link.cells])
  have h3 := h2.store1 link_len (by simpa using hn) (i := i) (by simpa using hi) ⟨x.a, l[i].b, l[i].seq, l[i].rev⟩ (j := 3) (o := i * 10 + 3) (u := .string x.a.val.text) (by omega) rfl (by simp [Link.cells])
  have h4 := h3.store1 link_len (by simpa using hn) (i := i) (by simpa using hi) ⟨x.a, ⟨x.b.ns, l[i].b.val⟩, l[i].seq, l[i].rev⟩ (j := 4) (o := i * 10 + 4) (u := .string x.b.ns) (by omega) rfl (by simp [Link.cells])
  have h5 := h4.store1 link_len (by simpa using hn) (i := i) (by simpa using hi) ⟨x.a, ⟨x.b.ns, ⟨x.b.val.kind, l[i].b.val.num, l[i].b.val.text⟩⟩, l[i].seq, l[i].rev⟩ (j := 5) (o := i * 10 + 5) (u := .int .i64 x.b.val.kind) (by omega) rfl (by simp [Link.cells])
  have h6 := h5.store1 link_len (by simpa using hn) (i := i) (by simpa using hi) ⟨x.a, ⟨x.b.ns, ⟨x.b.val.kind, x.b.val.num, l[i].b.val.text⟩⟩, l[i].seq, l[i].rev⟩ (j := 6) (o := i * 10 + 6) (u := .int .i64 x.b.val.num) (by omega) rfl (by simp [Link.cells])
  have h7 := h6.store1 link_len (by simpa using hn) (i := i) (by simpa using hi) ⟨x.a, x.b, l[i].seq, l[i].rev⟩ (j := 7) (o := i * 10 + 7) (u := .string x.b.val.text) (by omega) rfl (by simp [Link.cells])
  have h8 := h7.store1 link_len (by simpa using hn) (i := i) (by simpa using hi) ⟨x.a, x.b, x.seq, l[i].rev⟩ (j := 8) (o := i * 10 + 8) (u := .int .i64 x.seq) (by omega) rfl (by simp [Link.cells])
  have h9 := h8.store1 link_len (by simpa using hn) (i := i) (by simpa using hi) x (j := 9) (o := i * 10 + 9) (u := .bool x.rev) (by omega) rfl (by simp [Link.cells])
  simpa only [List.set_set] using h9
/-- The two identifiers of a link are stored into an own slice. -/
theorem Owns.putEnds (h : Owns w base 29 Link.cells 10 (.slice (some ⟨g, 0, none⟩) n cap) l) (hn : n = l.length) (hi : i < l.length) (p q : Ident) :
    Owns ((((((((w.setCell ⟨g, i * 10, none⟩ (.string p.ns)).setCell ⟨g, i * 10 + 1, none⟩ (.int .i64 p.val.kind)).setCell ⟨g, i * 10 + 2, none⟩ (.int .i64 p.val.num)).setCell ⟨g, i * 10 + 3, none⟩ (.string p.val.text)).setCell ⟨g, i * 10 + 4, none⟩ (.string q.ns)).setCell ⟨g, i * 10 + 4 + 1, none⟩ (.int .i64 q.val.kind)).setCell ⟨g, i * 10 + 4 + 2, none⟩ (.int .i64 q.val.num)).setCell ⟨g, i * 10 + 4 + 3, none⟩ (.string q.val.text)) base 29 Link.cells 10 (.slice (some ⟨g, 0, none⟩) n cap) (l.set i ⟨p, q, l[i].seq, l[i].rev⟩) := by
  have h0 := h.store1 link_len hn hi ⟨⟨p.ns, l[i].a.val⟩, l[i].b, l[i].seq, l[i].rev⟩ (j := 0) (o := i * 10) (u := .string p.ns) (by omega) rfl rfl
  have h1 := h0.store1 link_len (by simpa using hn) (i := i) (by simpa using hi) ⟨⟨p.ns, ⟨p.val.kind, l[i].a.val.num, l[i].a.val.text⟩⟩, l[i].b, l[i].seq, l[i].rev⟩ (j := 1) (o := i * 10 + 1) (u := .int .i64 p.val.kind) (by omega) rfl (by simp [Link.cells])
  have h2 := h1.store1 link_len (by simpa using hn) (i := i) (by simpa using hi) ⟨⟨p.ns, ⟨p.val.kind, p.val.num, l[i].a.val.text⟩⟩, l[i].b, l[i].seq, l[i].rev⟩ (j := 2) (o := i * 10 + 2) (u := .int .i64 p.val.num) (by omega) rfl (by simp [Link.cells])
  have h3 := h2.store1 link_len (by simpa using hn) (i := i) (by simpa using hi) ⟨p, l[i].b, l[i].seq, l[i].rev⟩ (j := 3) (o := i * 10 + 3) (u := .string p.val.text) (by omega) rfl (by simp [Link.cells])
  have h4 := h3.store1 link_len (by simpa using hn) (i := i) (by simpa using hi) ⟨p, ⟨q.ns, l[i].b.val⟩, l[i].seq, l[i].rev⟩ (j := 4) (o := i * 10 + 4) (u := .string q.ns) (by omega) rfl (by simp [Link.cells])
  have h5 := h4.store1 link_len (by simpa using hn) (i := i) (by simpa using hi) ⟨p, ⟨q.ns, ⟨q.val.kind, l[i].b.val.num, l[i].b.val.text⟩⟩, l[i].seq, l[i].rev⟩ (j := 5) (o := i * 10 + 4 + 1) (u := .int .i64 q.val.kind) (by omega) (by omega) (by simp [Link.cells])
  have h6 := h5.store1 link_len (by simpa using hn) (i := i) (by simpa using hi) ⟨p, ⟨q.ns, ⟨q.val.kind, q.val.num, l[i].b.val.text⟩⟩, l[i].seq, l[i].rev⟩ (j := 6) (o := i * 10 + 4 + 2) (u := .int .i64 q.val.num) (by omega) (by omega) (by simp [Link.cells])
  have h7 := h6.store1 link_len (by simpa using hn) (i := i) (by simpa using hi) ⟨p, q, l[i].seq, l[i].rev⟩ (j := 7) (o := i * 10 + 4 + 3) (u := .string q.val.text) (by omega) (by omega) (by simp [Link.cells])
  simpa only [List.set_set] using h7
end
theorem tape_drew {w : World} {g b : Nat} (h : IsTape w g b) : IsTape w.drew g b := h.below (Below.refl _ _).drew
/-- What the loop has done: the links are no revocations up to m, and their copies are turned or not. -/
structure PlainTurn (l0 : List Link) (m : Nat) (la ta : List Link) : Prop where
  la_len : la.length = l0.length
  ta_len : ta.length = l0.length
  like : ∀ i (h : i < l0.length) (h' : i < la.length), la[i].a = l0[i].a ∧ la[i].b = l0[i].b ∧ la[i].seq = l0[i].seq ∧ (i < m → la[i].rev = false)
  turned : ∀ i (h : i < l0.length) (h' : i < ta.length), i < m → ta[i].seq = l0[i].seq ∧ ta[i].rev = false ∧ ((ta[i].a = l0[i].a ∧ ta[i].b = l0[i].b) ∨ (ta[i].a = l0[i].b ∧ ta[i].b = l0[i].a))
theorem PlainTurn.step {l0 la ta : List Link} {m : Nat} (h : PlainTurn l0 m la ta) (hm : m < la.length) {z : Link} (hz : z.seq = la[m].seq ∧ z.rev = false ∧ ((z.a = la[m].a ∧ z.b = la[m].b) ∨ (z.a = la[m].b ∧ z.b = la[m].a))) :
    PlainTurn l0 (m + 1) (la.set m ⟨la[m].a, la[m].b, la[m].seq, false⟩) (ta.set m z) := by
  have hl := h.la_len
  have ht := h.ta_len
  obtain ⟨k1, k2, k3, _⟩ := h.like m (by omega) hm
  refine ⟨by simpa using hl, by simpa using ht, fun i hi hi' => ?_, fun i hi hi' him => ?_⟩
  · rw [List.getElem_set]
    split
    · rename_i e
      subst e
      exact ⟨k1, k2, k3, fun _ => rfl⟩
    · rename_i e
      obtain ⟨j1, j2, j3, j4⟩ := h.like i hi (by simpa using hi')
      exact ⟨j1, j2, j3, fun hlt => j4 (by omega)⟩
  · rw [List.getElem_set]
    split
    · rename_i e
      subst e
      rw [k1, k2, k3] at hz
      exact hz
    · rename_i e
      exact h.turned i hi (by simpa using hi') (by omega)
theorem PlainTurn.valid {l0 la ta : List Link} {m : Nat} (h : PlainTurn l0 m la ta) (hv : validLinks l0 = true) : validLinks la = true :=
  LikeOf.valid ⟨h.la_len, fun i hi hi' => by
    obtain ⟨k1, k2, k3, _⟩ := h.like i hi hi'
    exact ⟨k3, .inl ⟨k1, k2⟩⟩⟩ hv
theorem PlainTurn.plain {l0 la ta : List Link} (h : PlainTurn l0 l0.length la ta) : ∀ x ∈ la, x.rev = false := by
  intro x hx
  obtain ⟨i, hi, rfl⟩ := List.getElem_of_mem hx
  have hi' : i < l0.length := by have := h.la_len; omega
  exact (h.like i hi' hi).2.2.2 hi'
theorem PlainTurn.of {l0 la ta : List Link} (h : PlainTurn l0 l0.length la ta) : TurnedOf la ta := by
  refine ⟨by rw [h.ta_len, h.la_len], fun i hi hi' => ?_⟩
  have hi0 : i < l0.length := by have := h.la_len; omega
  obtain ⟨k1, k2, k3, k4⟩ := h.like i hi0 hi
  obtain ⟨j1, j2, j3⟩ := h.turned i hi0 hi' hi0
  rw [k1, k2, k3, k4 hi0]
  exact ⟨j1, j2, j3⟩
theorem PlainTurn.valid_ta {l0 la ta : List Link} (h : PlainTurn l0 l0.length la ta) (hv : validLinks l0 = true) : validLinks ta = true :=
  LikeOf.valid ⟨h.ta_len, fun i hi hi' => by
    obtain ⟨j1, _, j3⟩ := h.turned i hi hi' hi
    exact ⟨j1, j3⟩⟩ hv
theorem plain_eq1 {l : List Link} {who : Ident} {f : Int} {o o' : List Ident} (hv : validLinks l = true) (hr : ∀ x ∈ l, x.rev = false) (ha : validId who = true) (hf : f ≤ 1073741824) (ho : SubjectOut l who f o) (ho' : AtOut l who 1073741824 o') : o = o' := by
  unfold SubjectOut at ho
  unfold AtOut at ho'
  rw [hv, ha] at ho ho'
  have ho : IsSubject l who f o := ho
  have ho' : IsAt l who 1073741824 o' := ho'
  have h := plain_subject hv hr hf ho
  exact Asc.ext h.1 ho'.1 fun y => by rw [h.2, ho'.2]
theorem plain_eq2 {l t : List Link} {who : Ident} {f : Int} {o o' : List Ident} (hv : validLinks l = true) (hv' : validLinks t = true) (hr : ∀ x ∈ l, x.rev = false) (hT : TurnedOf l t) (ha : validId who = true) (ho : AtOut l who f o) (ho' : AtOut t who f o') : o = o' := by
  unfold AtOut at ho ho'
  rw [hv, ha] at ho
  rw [hv', ha] at ho'
  have ho : IsAt l who f o := ho
  have ho' : IsAt t who f o' := ho'
  have h := hT.at_ hr ho'
  exact Asc.ext ho.1 h.1 fun y => by rw [h.2, ho.2]
theorem at_pos {l : List Link} {who : Ident} {f : Int} {o : List Ident} (hv : validLinks l = true) (ha : validId who = true) (ho : AtOut l who f o) : 0 < o.length := by
  unfold AtOut at ho
  rw [hv, ha] at ho
  have ho : IsAt l who f o := ho
  exact List.length_pos_of_mem ((ho.2 who).2 .refl)
set_option maxRecDepth 100000 in
set_option maxHeartbeats 4000000 in
theorem plain_walk (A : Option Addr) (c : Nat) (t : List Int) (w : World) (hl : SliceIs w w.heap.size intCells 1 A t) (hn : t.length * 8 ≤ 140737488351232) :
    Calls Try.prog 5 #[.slice A t.length c] w fun e w' => e = .returned (.bool true) ∧ Below w.heap.size w w' := by
  obtain ⟨i0, hi0, hz0, hz1, hz2⟩ := info_parts infoLink
  have HL := Lib.hid hl
  clear hl
  go_enter Try.func5, Try.ntmps5
  go_wp2_with fail
  refine (tape_New A c t _ HL.out hn).mono ?_
  rintro e w1 ⟨⟨g, b, rfl, hg1, hb1, hk1⟩, hx1⟩
  have HK1 := Lib.hid hk1
  clear hk1
  go_wp2_with fail
  refine (tape_Links g b 8 _ HK1.out (by omega)).mono ?_
  rintro e w2 ⟨v2, l0, s, rfl, hown2, hgen, hs4, hl8, hk2, hg2⟩
  obtain ⟨A2, c2, rfl, hc2, hsl2, hA2⟩ := hown2.slice link_len
  have hlt1 : g < w1.heap.size := HK1.out.ltg
  have hltb : b < w1.heap.size := HK1.out.lt
  have hval := hgen.links (by omega)
  have HV := Lib.hid hval
  have HK2 := Lib.hid hk2
  have HS2 := Lib.hid hsl2
  have HO2 := Lib.hid hown2
  have hz12 := hg2.size
  have HA2 := Lib.hid hA2
  clear hk2 hsl2 hval hgen hown2 hA2 HK1 HL
  go_upto_region 3 with (fail)
  go_wp2_with ((at_builtin; go_must (refine wpList_append_list _ rfl (.tmp 13) (.tmp 14) 22 rfl 29 i0 _ Link.cells 10 112 Try.underlying22 hi0 hz0 hz1 hz2 rfl (by omega) link_len link_one w2.heap.size (.slice (some ⟨w2.heap.size, 0, none⟩) 0 0) [] rfl (Owns.empty (Blk.new' rfl) (Nat.le_refl _)) _ _ _ l0 rfl rfl (HS2.out.next (by repeat (first | with_reducible exact Below.refl _ _ | with_reducible assumption | (with_reducible refine Below.setCell ?_ ?_ _; rotate_left; focus (first | exact Nat.le_refl _ | exact Nat.le_add_right _ _ | (simp; done) | (simp; omega) | omega)) | (with_reducible refine Below.alloc ?_ ?_ _; rotate_left; focus (first | exact Nat.le_refl _ | exact Nat.le_add_right _ _ | (simp; done) | (simp; omega) | omega)) | with_reducible refine Below.drew ?_ | with_reducible refine below_drewN ?_ _ | (with_reducible refine below_nextN ?_ (by with_reducible assumption) ?_; rotate_left; focus (first | exact Nat.le_refl _ | exact Nat.le_add_right _ _ | (simp; done) | (simp; omega) | omega))))) (by simp; omega) (by simp [maxLen]; omega) (by simp) ?_); intro v5 w3 hown5 hg5 hat5; have hbel3 : Below w2.heap.size w2 w3 := Below.grown (by repeat (first | with_reducible exact Below.refl _ _ | with_reducible assumption | (with_reducible refine Below.setCell ?_ ?_ _; rotate_left; focus (first | exact Nat.le_refl _ | exact Nat.le_add_right _ _ | (simp; done) | (simp; omega) | omega)) | (with_reducible refine Below.alloc ?_ ?_ _; rotate_left; focus (first | exact Nat.le_refl _ | exact Nat.le_add_right _ _ | (simp; done) | (simp; omega) | omega)) | with_reducible refine Below.drew ?_ | with_reducible refine below_drewN ?_ _ | (with_reducible refine below_nextN ?_ (by with_reducible assumption) ?_; rotate_left; focus (first | exact Nat.le_refl _ | exact Nat.le_add_right _ _ | (simp; done) | (simp; omega) | omega)))) hg5 (by simp) (own_row (Nat.le_refl _)); rw [List.nil_append] at hown5; obtain ⟨A5, c5, rfl, hc5, _, _⟩ := hown5.slice link_len; have HO5 := Lib.hid hown5; clear hown5 hg5 hat5))
  have HK3 := Lib.hid (HK2.out.below hbel3)
  have hG3 : w1.grownBy w3 (some g) := grown_newO hg2 (only_of_below hbel3 none) (fun q e => by cases e)
  have HO3 := Lib.hid (HO2.out.below hbel3 (Nat.le_refl _))
  clear HK2 HS2 HO2 hi0 hz0 hz1 hz2
  go_loopw [6] (fun vi wr => ∃ (m : Nat) (la ta : List Link), m ≤ l0.length ∧ vi = .int .i64 m ∧ Owns wr w1.heap.size 29 Link.cells 10 (.slice A2 l0.length c2) la ∧ Owns wr w2.heap.size 29 Link.cells 10 (.slice A5 l0.length c5) ta ∧ PlainTurn l0 m la ta ∧ IsTape wr g b ∧ w1.grownBy wr (some g)) (fun vi _ => l0.length - (intOf vi).toNat)
  case atStart => exact ⟨0, l0, l0, Nat.zero_le _, rfl, HO3.out, HO5.out, ⟨rfl, rfl, fun i h h' => ⟨rfl, rfl, rfl, fun h => by omega⟩, fun i _ _ h => by omega⟩, HK3.out, hG3⟩
  case round =>
    obtain ⟨m, la, ta, hm, rfl, hoa, hot, hpt, hkr, hGr⟩ := hrel
    clear HO3 HO5 HK3 hG3 hbel3
    have hll := hpt.la_len
    have htl := hpt.ta_len
    have HPT := Lib.hid hpt
    have HKR := Lib.hid hkr
    have HOA := Lib.hid hoa
    have HOT := Lib.hid hot
    have hzr := hGr.size
    clear hpt hkr hoa hot
    by_cases hlt : m < l0.length
    · obtain ⟨g4, rfl⟩ := HOA.out.some_of (by omega)
      have h42 : g4 < w2.heap.size := (HA2.out _ rfl).2
      obtain ⟨g5, rfl⟩ := HOT.out.some_of (by omega)
      obtain ⟨hb4, hs4'⟩ := HOA.out.ltN hll.symm
      obtain ⟨hb5, hs5'⟩ := HOT.out.ltN htl.symm
      have hma : m < la.length := by omega
      have hmt : m < ta.length := by omega
      obtain ⟨⟨a0, a1, a2, a3⟩, ⟨e0, e1, e2, e3⟩, s8, r9⟩ := Link.cells10 (b := g4) (o := m * 10) (x := la[m]) (fun j u hu => HOA.out.getN link_len hll.symm hma hu)
      have hfz : ∀ j, wr.frozen? ⟨g4, j, none⟩ = false := fun j => HOA.out.frzN hll.symm j
      obtain ⟨y, hy⟩ : ∃ y : Link, y = ⟨la[m].a, la[m].b, la[m].seq, false⟩ := ⟨_, rfl⟩
      have HY := Lib.hid hy
      clear hy
      go_upto_region 8 with (fail)
      refine abs_world (P := fun u => Code.wp _ _ _ _ u) (R := fun u => Owns u w1.heap.size 29 Link.cells 10 (.slice (some ⟨g4, 0, none⟩) l0.length c2) (la.set m y) ∧ Owns u w2.heap.size 29 Link.cells 10 (.slice (some ⟨g5, 0, none⟩) l0.length c5) ta ∧ IsTape u g b ∧ w1.grownBy u (some g)) ⟨?_, ?_, ?_, ?_⟩ ?_
      · rw [HY.out]; with_reducible exact HOA.out.store1 link_len hll.symm hma _ (j := 9) (by omega) rfl rfl
      · with_reducible exact HOT.out.far (far_of (h := g4) (by omega)) _
      · with_reducible exact HKR.out.far (by simp; omega) (by simp; omega) _
      · with_reducible exact only_setCell hGr (.inr (by simp; omega)) _
      clear a0 a1 a2 a3 e0 e1 e2 e3 s8 r9 hfz HOA HOT HKR hGr
      rintro U ⟨hoa, hot, hkU, hGU⟩
      have HOA := Lib.hid hoa
      have HOT := Lib.hid hot
      have HKU := Lib.hid hkU
      have hs4' := (hoa.ltN (by simp; omega)).2
      have hs5' := (hot.ltN htl.symm).2
      obtain ⟨⟨a0, a1, a2, a3⟩, ⟨e0, e1, e2, e3⟩, s8, r9⟩ := Link.cells10 (b := g4) (o := m * 10) (x := y) (fun j u hu => HOA.out.getS link_len hll.symm hma hu)
      obtain ⟨⟨p0, p1, p2, p3⟩, ⟨q0, q1, q2, q3⟩, t8, t9⟩ := Link.cells10 (b := g5) (o := m * 10) (x := ta[m]) (fun j u hu => HOT.out.getN link_len htl.symm hmt hu)
      have hfz : ∀ j, U.frozen? ⟨g5, j, none⟩ = false := fun j => HOT.out.frzN htl.symm j
      clear hoa hot hkU
      go_upto_region 9 with (fail)
      refine abs_world (P := fun u => Code.wp _ _ _ _ u) (R := fun u => Owns u w1.heap.size 29 Link.cells 10 (.slice (some ⟨g4, 0, none⟩) l0.length c2) (la.set m y) ∧ Owns u w2.heap.size 29 Link.cells 10 (.slice (some ⟨g5, 0, none⟩) l0.length c5) (ta.set m y) ∧ IsTape u g b ∧ w1.grownBy u (some g)) ⟨?_, ?_, ?_, ?_⟩ ?_
      · repeat (first | with_reducible exact HOA.out | with_reducible refine Owns.far ?_ (far_of (h := g5) (by omega)) _)
      · with_reducible exact HOT.out.putLink htl.symm hmt y
      · repeat (first | with_reducible exact HKU.out | with_reducible refine IsTape.far ?_ (by simp; omega) (by simp; omega) _)
      · repeat (first | with_reducible exact hGU | with_reducible refine only_setCell ?_ (.inr (by simp; omega)) _)
      clear a0 a1 a2 a3 e0 e1 e2 e3 s8 r9 p0 p1 p2 p3 q0 q1 q2 q3 t8 t9 hfz HOA HOT HKU hGU
      rintro V ⟨hoa, hot, hkV, hGV⟩
      go_wp2_with fail
      refine (tape_Next g b 2 _ hkV (by omega) (by omega)).mono ?_
      rintro e w6 ⟨r6, rfl, hr6, hk6, hg6⟩
      have hr6' : r6 < 2 := by rcases hr6 with h | h <;> omega
      have HOA := Lib.hid (hoa.grown hg6 hlt1)
      have HOT := Lib.hid (hot.grown hg6 (by omega))
      have hG6 := grown_trans hGV hg6
      have HK6 := Lib.hid hk6
      clear hoa hot hkV hGV hg6 hk6 hr6
      rcases (show r6 = 0 ∨ r6 = 1 by omega) with rfl | rfl
      · have hs4' := (HOA.out.ltN (by simp; omega)).2
        have hs5' := (HOT.out.ltN (by simp; omega)).2
        obtain ⟨⟨a0, a1, a2, a3⟩, ⟨e0, e1, e2, e3⟩, _, _⟩ := Link.cells10 (b := g4) (o := m * 10) (x := y) (fun j u hu => HOA.out.getS link_len hll.symm hma hu)
        obtain ⟨⟨p0, p1, p2, p3⟩, ⟨q0, q1, q2, q3⟩, _, _⟩ := Link.cells10 (b := g5) (o := m * 10) (x := y) (fun j u hu => HOT.out.getS link_len htl.symm hmt hu)
        have hfz : ∀ j, w6.frozen? ⟨g5, j, none⟩ = false := fun j => HOT.out.frzN (by simp; omega) j
        go_upto_region 10 with (fail)
        go_region
        all_goals go_wp2_with fail
        all_goals
          go_roundw
          case rel =>
            refine ⟨m + 1, la.set m y, ta.set m ⟨y.b, y.a, y.seq, y.rev⟩, by omega, by go_num, ?_, ?_, ?_, ?_, ?_⟩
            · with_reducible refine Owns.drew ?_
              repeat (first | with_reducible exact HOA.out | with_reducible refine Owns.far ?_ (far_of (h := g5) (by omega)) _)
            · have h := HOT.out.putEnds (by simp; omega) (i := m) (by simp; omega) y.b y.a
              simp only [List.set_set, List.getElem_set_self] at h
              with_reducible exact h.drew
            · have hy := HY.out
              have := HPT.out.step hma (z := ⟨y.b, y.a, y.seq, y.rev⟩) (by rw [hy]; exact ⟨rfl, rfl, .inr ⟨rfl, rfl⟩⟩)
              rwa [← hy] at this
            · with_reducible refine tape_drew ?_
              repeat (first | with_reducible exact HK6.out | with_reducible refine IsTape.far ?_ (by simp; omega) (by simp; omega) _)
            · with_reducible refine grown_drew ?_
              repeat (first | with_reducible exact hG6 | with_reducible refine only_setCell ?_ (.inr (by simp; omega)) _)
          case measure => simp [intOf]; omega
      · go_wp2_with fail
        go_roundw
        case rel =>
          refine ⟨m + 1, la.set m y, ta.set m y, by omega, by go_num, HOA.out, HOT.out, ?_, HK6.out, hG6⟩
          have hy := HY.out
          have := HPT.out.step hma (z := y) (by rw [hy]; exact ⟨rfl, rfl, .inl ⟨rfl, rfl⟩⟩)
          rwa [← hy] at this
        case measure => simp [intOf]; omega
    · have hlt0 : decide (m < l0.length) = false := by simpa using hlt
      obtain rfl : m = l0.length := by omega
      go_wp2_with fail
      refine (tape_Identifier g b _ HKR.out).mono ?_
      rintro e w4 ⟨who, rfl, hvw, hsw, hk4, hg4⟩
      go_wp2_with fail
      refine (tape_Next g b 20 _ hk4 (by omega) (by omega)).mono ?_
      rintro e w5 ⟨fr, rfl, hfr, hk5, hg5⟩
      have hfr' : fr < 20 := by rcases hfr with h | h <;> omega
      have hoa := (HOA.out.grown hg4 hlt1).grown hg5 hlt1
      have hot := (HOT.out.grown hg4 (by omega)).grown hg5 (by omega)
      obtain ⟨A6, c6, hv6, _, hsl4, _⟩ := hoa.slice link_len
      injection hv6 with h61 h62 h63
      subst h61
      obtain ⟨A7, c7, hv7, _, hsl5, _⟩ := hot.slice link_len
      injection hv7 with h71 h72 h73
      subst h71
      have hx5 : Below w.heap.size w w5 := Below.grown hx1 (grown_trans (grown_trans hGr hg4) hg5) hx1.size (fun q e => by injection e with e; omega)
      have HSL4 := Lib.hid hsl4
      have HSL5 := Lib.hid hsl5
      have HVA := Lib.hid (HPT.out.valid HV.out)
      have HVT := Lib.hid (HPT.out.valid_ta HV.out)
      have HPL := Lib.hid HPT.out.plain
      have HTO := Lib.hid HPT.out.of
      have HSN_la := Lib.hid (valid_sane HVA.out)
      have HSN_ta := Lib.hid (valid_sane HVT.out)
      have HLEN_la := Lib.hid hll
      have HLEN_ta := Lib.hid htl
      have HVW := Lib.hid hvw
      clear hoa hot hsl4 hsl5 hg4 hg5 hk4 hk5 hGr HOA HOT HKR hll htl hvw hfr h62 h63 h72 h73 HPT HA2
      go_upto_region 12 with (fail)
      obtain ⟨Y, hY⟩ : ∃ Y, Y = w5.heap.size := ⟨_, rfl⟩
      rw [← hY]
      refine abs_world (P := fun u => Code.wp _ _ _ _ u) (R := fun u => Blk u Y 27 who.cells.toArray ∧ SliceIs u u.heap.size Link.cells 10 A2 la ∧ SliceIs u u.heap.size Link.cells 10 A5 ta ∧ Below w.heap.size w u) ⟨?_, ?_, ?_, ?_⟩ ?_
      · rw [hY]; exact Blk.new _ _ _
      · exact HSL4.out.next (by repeat (first | with_reducible exact Below.refl _ _ | with_reducible assumption | (with_reducible refine Below.setCell ?_ ?_ _; rotate_left; focus (first | exact Nat.le_refl _ | exact Nat.le_add_right _ _ | (simp; done) | (simp; omega) | omega)) | (with_reducible refine Below.alloc ?_ ?_ _; rotate_left; focus (first | exact Nat.le_refl _ | exact Nat.le_add_right _ _ | (simp; done) | (simp; omega) | omega)) | with_reducible refine Below.drew ?_ | with_reducible refine below_drewN ?_ _ | (with_reducible refine below_nextN ?_ (by with_reducible assumption) ?_; rotate_left; focus (first | exact Nat.le_refl _ | exact Nat.le_add_right _ _ | (simp; done) | (simp; omega) | omega))))
      · exact HSL5.out.next (by repeat (first | with_reducible exact Below.refl _ _ | with_reducible assumption | (with_reducible refine Below.setCell ?_ ?_ _; rotate_left; focus (first | exact Nat.le_refl _ | exact Nat.le_add_right _ _ | (simp; done) | (simp; omega) | omega)) | (with_reducible refine Below.alloc ?_ ?_ _; rotate_left; focus (first | exact Nat.le_refl _ | exact Nat.le_add_right _ _ | (simp; done) | (simp; omega) | omega)) | with_reducible refine Below.drew ?_ | with_reducible refine below_drewN ?_ _ | (with_reducible refine below_nextN ?_ (by with_reducible assumption) ?_; rotate_left; focus (first | exact Nat.le_refl _ | exact Nat.le_add_right _ _ | (simp; done) | (simp; omega) | omega))))
      · exact hx5.alloc hx5.size _
      clear HSL4 HSL5 hx5 hY
      rintro W ⟨hbw, hsl4, hsl5, hbW⟩
      obtain ⟨p0, p1, p2, p3⟩ := Ident.blk hbw
      have mz0 := hbw.lt
      have HSL4 := Lib.hid hsl4
      have HSL5 := Lib.hid hsl5
      clear hbw hsl4 hsl5
      refine wp_region_held_drew (S := (fun w' => w'.cell? ⟨Y, 0, none⟩ = some (.string who.ns) ∧ w'.cell? ⟨Y, 1, none⟩ = some (.int .i64 who.val.kind) ∧ w'.cell? ⟨Y, 2, none⟩ = some (.int .i64 who.val.num) ∧ w'.cell? ⟨Y, 3, none⟩ = some (.string who.val.text))) (by kernel_rfl) ⟨p0, p1, p2, p3⟩ (fun hHeld => ?_)
      refine wpAnyH_take (i := 0) (v := ?_) rfl (by kernel_rfl) (by kernel_rfl) (by kernel_rfl) (fun _ _ _ h => h) (Or.inl ⟨by kernel_rfl, ?_⟩) hHeld ?_
      rotate_left
      · (intro w hSw; (try dsimp only at hSw); go_simp; first | done | with_reducible rfl)
      (try simp only [Act.put, List.getElem_toArray, List.getElem_cons_zero, List.setIfInBounds_toArray, List.set_cons_zero, List.set_cons_succ])
      refine wpAnyH_take (i := 1) (v := ?_) rfl (by kernel_rfl) (by kernel_rfl) (by kernel_rfl) (fun _ _ _ h => h) (Or.inl ⟨by kernel_rfl, ?_⟩) hHeld ?_
      rotate_left
      · (intro w hSw; (try dsimp only at hSw); go_simp; first | done | with_reducible rfl)
      (try simp only [Act.put, List.getElem_toArray, List.getElem_cons_zero, List.getElem_cons_succ, List.setIfInBounds_toArray, List.set_cons_zero, List.set_cons_succ])
      refine wpAnyH_take (i := 2) (v := ?_) rfl (by kernel_rfl) (by kernel_rfl) (by kernel_rfl) (fun _ _ _ h => h) (Or.inl ⟨by kernel_rfl, ?_⟩) hHeld ?_
      rotate_left
      · (intro w hSw; (try dsimp only at hSw); go_simp; first | done | with_reducible rfl)
      (try simp only [Act.put, List.getElem_toArray, List.getElem_cons_zero, List.getElem_cons_succ, List.setIfInBounds_toArray, List.set_cons_zero, List.set_cons_succ])
      refine wpAnyH_take (i := 4) (v := ?_) rfl (by kernel_rfl) (by kernel_rfl) (by kernel_rfl) (fun _ _ _ h => h) (Or.inl ⟨by kernel_rfl, ?_⟩) hHeld ?_
      rotate_left
      · (intro w hSw; (try dsimp only at hSw); go_simp; first | done | with_reducible rfl)
      (try simp only [Act.put, List.getElem_toArray, List.getElem_cons_zero, List.getElem_cons_succ, List.setIfInBounds_toArray, List.set_cons_zero, List.set_cons_succ])
      refine wpAnyH_take (i := 5) (v := ?_) rfl (by kernel_rfl) (by kernel_rfl) (by kernel_rfl) (fun _ _ _ h => h) (Or.inl ⟨by kernel_rfl, ?_⟩) hHeld ?_
      rotate_left
      · (intro w hSw; (try dsimp only at hSw); go_simp; first | done | with_reducible rfl)
      (try simp only [Act.put, List.getElem_toArray, List.getElem_cons_zero, List.getElem_cons_succ, List.setIfInBounds_toArray, List.set_cons_zero, List.set_cons_succ])
      refine wpAnyH_ready (rs := [3]) (by kernel_rfl) (by simp) ?_
      refine AllReadyH.cons rfl (fun K hK => ?_) AllReadyH.nil
      go_simp
      (go_at_call 19; (with_reducible refine (identity_SubjectN A2 c2 l0.length la who fr _ (HSL4.out.next (by repeat (first | with_reducible exact Below.refl _ _ | with_reducible assumption | (with_reducible refine Below.setCell ?_ ?_ _; rotate_left; focus (first | exact Nat.le_refl _ | exact Nat.le_add_right _ _ | (simp; done) | (simp; omega) | omega)) | (with_reducible refine Below.alloc ?_ ?_ _; rotate_left; focus (first | exact Nat.le_refl _ | exact Nat.le_add_right _ _ | (simp; done) | (simp; omega) | omega)) | with_reducible refine Below.drew ?_ | with_reducible refine below_drewN ?_ _ | (with_reducible refine below_nextN ?_ (by with_reducible assumption) ?_; rotate_left; focus (first | exact Nat.le_refl _ | exact Nat.le_add_right _ _ | (simp; done) | (simp; omega) | omega))))) HLEN_la.out (by omega) HSN_la.out (by omega) (by omega)).mono ?_); rintro e w3 ⟨⟨o3, A3, c3, ho3, rfl, hs3⟩, hb3⟩; have hx3 : Below W.heap.size W w3 := (by repeat (first | with_reducible exact Below.refl _ _ | with_reducible assumption | (with_reducible refine Below.setCell ?_ ?_ _; rotate_left; focus (first | exact Nat.le_refl _ | exact Nat.le_add_right _ _ | (simp; done) | (simp; omega) | omega)) | (with_reducible refine Below.alloc ?_ ?_ _; rotate_left; focus (first | exact Nat.le_refl _ | exact Nat.le_add_right _ _ | (simp; done) | (simp; omega) | omega)) | with_reducible refine Below.drew ?_ | with_reducible refine below_drewN ?_ _ | (with_reducible refine below_nextN ?_ (by with_reducible assumption) ?_; rotate_left; focus (first | exact Nat.le_refl _ | exact Nat.le_add_right _ _ | (simp; done) | (simp; omega) | omega)))); have hz3 := hx3.size; obtain ⟨ka3, _, _⟩ := keepB hx3 Y mz0; have HO3 := Lib.hid ho3; clear ho3)
      go_wp2_with fail
      refine hK.out _ _ ⟨?_, ?_, ?_, ?_⟩ (fun hHeld => ?_)
      iterate 4 (simp only [*])
      clear hK K
      (try simp only [Act.put, List.getElem_toArray, List.getElem_cons_zero, List.getElem_cons_succ, List.setIfInBounds_toArray, List.set_cons_zero, List.set_cons_succ])
      refine wpAnyH_ready (rs := [6]) (by kernel_rfl) (by simp) ?_
      refine AllReadyH.cons rfl (fun K hK => ?_) AllReadyH.nil
      go_simp
      (go_at_call 13; (with_reducible refine (identity_AtN A2 c2 l0.length la who 1073741824 _ (HSL4.out.next (by repeat (first | with_reducible exact Below.refl _ _ | with_reducible assumption | (with_reducible refine Below.setCell ?_ ?_ _; rotate_left; focus (first | exact Nat.le_refl _ | exact Nat.le_add_right _ _ | (simp; done) | (simp; omega) | omega)) | (with_reducible refine Below.alloc ?_ ?_ _; rotate_left; focus (first | exact Nat.le_refl _ | exact Nat.le_add_right _ _ | (simp; done) | (simp; omega) | omega)) | with_reducible refine Below.drew ?_ | with_reducible refine below_drewN ?_ _ | (with_reducible refine below_nextN ?_ (by with_reducible assumption) ?_; rotate_left; focus (first | exact Nat.le_refl _ | exact Nat.le_add_right _ _ | (simp; done) | (simp; omega) | omega))))) HLEN_la.out (by omega) HSN_la.out (by omega) (by omega)).mono ?_); rintro e w6 ⟨⟨o6, A6, c6, ho6, rfl, hs6⟩, hb6⟩; have hx6 : Below W.heap.size W w6 := (by repeat (first | with_reducible exact Below.refl _ _ | with_reducible assumption | (with_reducible refine Below.setCell ?_ ?_ _; rotate_left; focus (first | exact Nat.le_refl _ | exact Nat.le_add_right _ _ | (simp; done) | (simp; omega) | omega)) | (with_reducible refine Below.alloc ?_ ?_ _; rotate_left; focus (first | exact Nat.le_refl _ | exact Nat.le_add_right _ _ | (simp; done) | (simp; omega) | omega)) | with_reducible refine Below.drew ?_ | with_reducible refine below_drewN ?_ _ | (with_reducible refine below_nextN ?_ (by with_reducible assumption) ?_; rotate_left; focus (first | exact Nat.le_refl _ | exact Nat.le_add_right _ _ | (simp; done) | (simp; omega) | omega)))); have hz6 := hx6.size; obtain ⟨ka6, _, _⟩ := keepB hx6 Y mz0; obtain rfl := plain_eq1 HVA.out HPL.out HVW.out (by omega) HO3.out ho6; clear ho6; have HSX3 := Lib.hid (hs3.next hb6); have HLX3 := Lib.hid (subject_len HO3.out))
      go_wp2_with fail
      refine hK.out _ _ ⟨?_, ?_, ?_, ?_⟩ (fun hHeld => ?_)
      iterate 4 (simp only [*])
      clear hK K
      (try simp only [Act.put, List.getElem_toArray, List.getElem_cons_zero, List.getElem_cons_succ, List.setIfInBounds_toArray, List.set_cons_zero, List.set_cons_succ])
      refine wpAnyH_ready (rs := [7]) (by kernel_rfl) (by simp) ?_
      refine AllReadyH.cons rfl (fun K hK => ?_) AllReadyH.nil
      go_simp
      (go_at_call 22; (with_reducible refine (same_yes A3 A6 c3 c6 o3.length o3 _ rfl HSX3.out hs6 HLX3.out).mono ?_); rintro e w7 ⟨rfl, hb7⟩; have hx7 : Below W.heap.size W w7 := (by repeat (first | with_reducible exact Below.refl _ _ | with_reducible assumption | (with_reducible refine Below.setCell ?_ ?_ _; rotate_left; focus (first | exact Nat.le_refl _ | exact Nat.le_add_right _ _ | (simp; done) | (simp; omega) | omega)) | (with_reducible refine Below.alloc ?_ ?_ _; rotate_left; focus (first | exact Nat.le_refl _ | exact Nat.le_add_right _ _ | (simp; done) | (simp; omega) | omega)) | with_reducible refine Below.drew ?_ | with_reducible refine below_drewN ?_ _ | (with_reducible refine below_nextN ?_ (by with_reducible assumption) ?_; rotate_left; focus (first | exact Nat.le_refl _ | exact Nat.le_add_right _ _ | (simp; done) | (simp; omega) | omega)))); have hz7 := hx7.size; obtain ⟨ka7, _, _⟩ := keepB hx7 Y mz0)
      go_wp2_with fail
      refine hK.out _ _ ⟨?_, ?_, ?_, ?_⟩ (fun hHeld => ?_)
      iterate 4 (simp only [*])
      clear hK K
      (try simp only [Act.put, List.getElem_toArray, List.getElem_cons_zero, List.getElem_cons_succ, List.setIfInBounds_toArray, List.set_cons_zero, List.set_cons_succ])
      refine wpAnyH_take (i := 8) (v := ?_) rfl (by kernel_rfl) (by kernel_rfl) (by kernel_rfl) (fun _ _ _ h => h) (Or.inl ⟨by kernel_rfl, ?_⟩) hHeld ?_
      rotate_left
      · (intro w hSw; (try dsimp only at hSw); go_simp; first | done | with_reducible rfl)
      (try simp only [Act.put, List.getElem_toArray, List.getElem_cons_zero, List.getElem_cons_succ, List.setIfInBounds_toArray, List.set_cons_zero, List.set_cons_succ])
      refine wpAnyH_take (i := 9) (v := ?_) rfl (by kernel_rfl) (by kernel_rfl) (by kernel_rfl) (fun _ _ _ h => h) (Or.inl ⟨by kernel_rfl, ?_⟩) hHeld ?_
      rotate_left
      · (intro w hSw; (try dsimp only at hSw); go_simp; first | done | with_reducible rfl)
      (try simp only [Act.put, List.getElem_toArray, List.getElem_cons_zero, List.getElem_cons_succ, List.setIfInBounds_toArray, List.set_cons_zero, List.set_cons_succ])
      refine wpAnyH_take (i := 10) (v := ?_) rfl (by kernel_rfl) (by kernel_rfl) (by kernel_rfl) (fun _ _ _ h => h) (Or.inl ⟨by kernel_rfl, ?_⟩) hHeld ?_
      rotate_left
      · (intro w hSw; (try dsimp only at hSw); go_simp; first | done | with_reducible rfl)
      (try simp only [Act.put, List.getElem_toArray, List.getElem_cons_zero, List.getElem_cons_succ, List.setIfInBounds_toArray, List.set_cons_zero, List.set_cons_succ])
      refine wpAnyH_take (i := 11) (v := ?_) rfl (by kernel_rfl) (by kernel_rfl) (by kernel_rfl) (fun _ _ _ h => h) (Or.inl ⟨by kernel_rfl, ?_⟩) hHeld ?_
      rotate_left
      · (intro w hSw; (try dsimp only at hSw); go_simp; first | done | with_reducible rfl)
      (try simp only [Act.put, List.getElem_toArray, List.getElem_cons_zero, List.getElem_cons_succ, List.setIfInBounds_toArray, List.set_cons_zero, List.set_cons_succ])
      refine wpAnyH_take (i := 13) (v := ?_) rfl (by kernel_rfl) (by kernel_rfl) (by kernel_rfl) (fun _ _ _ h => h) (Or.inl ⟨by kernel_rfl, ?_⟩) hHeld ?_
      rotate_left
      · (intro w hSw; (try dsimp only at hSw); go_simp; first | done | with_reducible rfl)
      (try simp only [Act.put, List.getElem_toArray, List.getElem_cons_zero, List.getElem_cons_succ, List.setIfInBounds_toArray, List.set_cons_zero, List.set_cons_succ])
      refine wpAnyH_take (i := 14) (v := ?_) rfl (by kernel_rfl) (by kernel_rfl) (by kernel_rfl) (fun _ _ _ h => h) (Or.inl ⟨by kernel_rfl, ?_⟩) hHeld ?_
      rotate_left
      · (intro w hSw; (try dsimp only at hSw); go_simp; first | done | with_reducible rfl)
      (try simp only [Act.put, List.getElem_toArray, List.getElem_cons_zero, List.getElem_cons_succ, List.setIfInBounds_toArray, List.set_cons_zero, List.set_cons_succ])
      refine wpAnyH_take (i := 15) (v := ?_) rfl (by kernel_rfl) (by kernel_rfl) (by kernel_rfl) (fun _ _ _ h => h) (Or.inl ⟨by kernel_rfl, ?_⟩) hHeld ?_
      rotate_left
      · (intro w hSw; (try dsimp only at hSw); go_simp; first | done | with_reducible rfl)
      (try simp only [Act.put, List.getElem_toArray, List.getElem_cons_zero, List.getElem_cons_succ, List.setIfInBounds_toArray, List.set_cons_zero, List.set_cons_succ])
      refine wpAnyH_ready (rs := [12]) (by kernel_rfl) (by simp) ?_
      refine AllReadyH.cons rfl (fun K hK => ?_) AllReadyH.nil
      go_simp
      (go_at_call 13; (with_reducible refine (identity_AtN A2 c2 l0.length la who (fr : Int) _ (HSL4.out.next (by repeat (first | with_reducible exact Below.refl _ _ | with_reducible assumption | (with_reducible refine Below.setCell ?_ ?_ _; rotate_left; focus (first | exact Nat.le_refl _ | exact Nat.le_add_right _ _ | (simp; done) | (simp; omega) | omega)) | (with_reducible refine Below.alloc ?_ ?_ _; rotate_left; focus (first | exact Nat.le_refl _ | exact Nat.le_add_right _ _ | (simp; done) | (simp; omega) | omega)) | with_reducible refine Below.drew ?_ | with_reducible refine below_drewN ?_ _ | (with_reducible refine below_nextN ?_ (by with_reducible assumption) ?_; rotate_left; focus (first | exact Nat.le_refl _ | exact Nat.le_add_right _ _ | (simp; done) | (simp; omega) | omega))))) HLEN_la.out (by omega) HSN_la.out (by omega) (by omega)).mono ?_); rintro e w12 ⟨⟨o12, A12, c12, ho12, rfl, hs12⟩, hb12⟩; have hx12 : Below W.heap.size W w12 := (by repeat (first | with_reducible exact Below.refl _ _ | with_reducible assumption | (with_reducible refine Below.setCell ?_ ?_ _; rotate_left; focus (first | exact Nat.le_refl _ | exact Nat.le_add_right _ _ | (simp; done) | (simp; omega) | omega)) | (with_reducible refine Below.alloc ?_ ?_ _; rotate_left; focus (first | exact Nat.le_refl _ | exact Nat.le_add_right _ _ | (simp; done) | (simp; omega) | omega)) | with_reducible refine Below.drew ?_ | with_reducible refine below_drewN ?_ _ | (with_reducible refine below_nextN ?_ (by with_reducible assumption) ?_; rotate_left; focus (first | exact Nat.le_refl _ | exact Nat.le_add_right _ _ | (simp; done) | (simp; omega) | omega)))); have hz12 := hx12.size; obtain ⟨ka12, _, _⟩ := keepB hx12 Y mz0; have HO12 := Lib.hid ho12; clear ho12)
      go_wp2_with fail
      refine hK.out _ _ ⟨?_, ?_, ?_, ?_⟩ (fun hHeld => ?_)
      iterate 4 (simp only [*])
      clear hK K
      (try simp only [Act.put, List.getElem_toArray, List.getElem_cons_zero, List.getElem_cons_succ, List.setIfInBounds_toArray, List.set_cons_zero, List.set_cons_succ])
      refine wpAnyH_ready (rs := [16]) (by kernel_rfl) (by simp) ?_
      refine AllReadyH.cons rfl (fun K hK => ?_) AllReadyH.nil
      go_simp
      (go_at_call 13; (with_reducible refine (identity_AtN A5 c5 l0.length ta who fr _ (HSL5.out.next (by repeat (first | with_reducible exact Below.refl _ _ | with_reducible assumption | (with_reducible refine Below.setCell ?_ ?_ _; rotate_left; focus (first | exact Nat.le_refl _ | exact Nat.le_add_right _ _ | (simp; done) | (simp; omega) | omega)) | (with_reducible refine Below.alloc ?_ ?_ _; rotate_left; focus (first | exact Nat.le_refl _ | exact Nat.le_add_right _ _ | (simp; done) | (simp; omega) | omega)) | with_reducible refine Below.drew ?_ | with_reducible refine below_drewN ?_ _ | (with_reducible refine below_nextN ?_ (by with_reducible assumption) ?_; rotate_left; focus (first | exact Nat.le_refl _ | exact Nat.le_add_right _ _ | (simp; done) | (simp; omega) | omega))))) HLEN_ta.out (by omega) HSN_ta.out (by omega) (by omega)).mono ?_); rintro e w16 ⟨⟨o16, A16, c16, ho16, rfl, hs16⟩, hb16⟩; have hx16 : Below W.heap.size W w16 := (by repeat (first | with_reducible exact Below.refl _ _ | with_reducible assumption | (with_reducible refine Below.setCell ?_ ?_ _; rotate_left; focus (first | exact Nat.le_refl _ | exact Nat.le_add_right _ _ | (simp; done) | (simp; omega) | omega)) | (with_reducible refine Below.alloc ?_ ?_ _; rotate_left; focus (first | exact Nat.le_refl _ | exact Nat.le_add_right _ _ | (simp; done) | (simp; omega) | omega)) | with_reducible refine Below.drew ?_ | with_reducible refine below_drewN ?_ _ | (with_reducible refine below_nextN ?_ (by with_reducible assumption) ?_; rotate_left; focus (first | exact Nat.le_refl _ | exact Nat.le_add_right _ _ | (simp; done) | (simp; omega) | omega)))); have hz16 := hx16.size; obtain ⟨ka16, _, _⟩ := keepB hx16 Y mz0; obtain rfl := plain_eq2 HVA.out HVT.out HPL.out HTO.out HVW.out HO12.out ho16; clear ho16; have HSX12 := Lib.hid (hs12.next hb16); have HLX12 := Lib.hid (at_len' HO12.out))
      go_wp2_with fail
      refine hK.out _ _ ⟨?_, ?_, ?_, ?_⟩ (fun hHeld => ?_)
      iterate 4 (simp only [*])
      clear hK K
      (try simp only [Act.put, List.getElem_toArray, List.getElem_cons_zero, List.getElem_cons_succ, List.setIfInBounds_toArray, List.set_cons_zero, List.set_cons_succ])
      refine wpAnyH_ready (rs := [17]) (by kernel_rfl) (by simp) ?_
      refine AllReadyH.cons rfl (fun K hK => ?_) AllReadyH.nil
      go_simp
      (go_at_call 22; (with_reducible refine (same_yes A12 A16 c12 c16 o12.length o12 _ rfl HSX12.out hs16 HLX12.out).mono ?_); rintro e w17 ⟨rfl, hb17⟩; have hx17 : Below W.heap.size W w17 := (by repeat (first | with_reducible exact Below.refl _ _ | with_reducible assumption | (with_reducible refine Below.setCell ?_ ?_ _; rotate_left; focus (first | exact Nat.le_refl _ | exact Nat.le_add_right _ _ | (simp; done) | (simp; omega) | omega)) | (with_reducible refine Below.alloc ?_ ?_ _; rotate_left; focus (first | exact Nat.le_refl _ | exact Nat.le_add_right _ _ | (simp; done) | (simp; omega) | omega)) | with_reducible refine Below.drew ?_ | with_reducible refine below_drewN ?_ _ | (with_reducible refine below_nextN ?_ (by with_reducible assumption) ?_; rotate_left; focus (first | exact Nat.le_refl _ | exact Nat.le_add_right _ _ | (simp; done) | (simp; omega) | omega)))); have hz17 := hx17.size; obtain ⟨ka17, _, _⟩ := keepB hx17 Y mz0)
      go_wp2_with fail
      refine hK.out _ _ ⟨?_, ?_, ?_, ?_⟩ (fun hHeld => ?_)
      iterate 4 (simp only [*])
      clear hK K
      (try simp only [Act.put, List.getElem_toArray, List.getElem_cons_zero, List.getElem_cons_succ, List.setIfInBounds_toArray, List.set_cons_zero, List.set_cons_succ])
      refine wpAnyH_take (i := 18) (v := ?_) rfl (by kernel_rfl) (by kernel_rfl) (by kernel_rfl) (fun _ _ _ h => h) (Or.inl ⟨by kernel_rfl, ?_⟩) hHeld ?_
      rotate_left
      · (intro w hSw; (try dsimp only at hSw); go_simp; first | done | with_reducible rfl)
      (try simp only [Act.put, List.getElem_toArray, List.getElem_cons_zero, List.getElem_cons_succ, List.setIfInBounds_toArray, List.set_cons_zero, List.set_cons_succ])
      refine wpAnyH_take (i := 19) (v := ?_) rfl (by kernel_rfl) (by kernel_rfl) (by kernel_rfl) (fun _ _ _ h => h) (Or.inl ⟨by kernel_rfl, ?_⟩) hHeld ?_
      rotate_left
      · (intro w hSw; (try dsimp only at hSw); go_simp; first | done | with_reducible rfl)
      (try simp only [Act.put, List.getElem_toArray, List.getElem_cons_zero, List.getElem_cons_succ, List.setIfInBounds_toArray, List.set_cons_zero, List.set_cons_succ])
      refine wpAnyH_take (i := 20) (v := ?_) rfl (by kernel_rfl) (by kernel_rfl) (by kernel_rfl) (fun _ _ _ h => h) (Or.inl ⟨by kernel_rfl, ?_⟩) hHeld ?_
      rotate_left
      · (intro w hSw; (try dsimp only at hSw); go_simp; first | done | with_reducible rfl)
      (try simp only [Act.put, List.getElem_toArray, List.getElem_cons_zero, List.getElem_cons_succ, List.setIfInBounds_toArray, List.set_cons_zero, List.set_cons_succ])
      refine wpAnyH_take (i := 21) (v := ?_) rfl (by kernel_rfl) (by kernel_rfl) (by kernel_rfl) (fun _ _ _ h => h) (Or.inl ⟨by kernel_rfl, ?_⟩) hHeld ?_
      rotate_left
      · (intro w hSw; (try dsimp only at hSw); go_simp; first | done | with_reducible rfl)
      (try simp only [Act.put, List.getElem_toArray, List.getElem_cons_zero, List.getElem_cons_succ, List.setIfInBounds_toArray, List.set_cons_zero, List.set_cons_succ])
      refine wpAnyH_take (i := 22) (v := ?_) rfl (by kernel_rfl) (by kernel_rfl) (by kernel_rfl) (fun _ _ _ h => h) (Or.inl ⟨by kernel_rfl, ?_⟩) hHeld ?_
      rotate_left
      · (intro w hSw; (try dsimp only at hSw); go_simp; first | done | with_reducible rfl)
      (try simp only [Act.put, List.getElem_toArray, List.getElem_cons_zero, List.getElem_cons_succ, List.setIfInBounds_toArray, List.set_cons_zero, List.set_cons_succ])
      refine wpAnyH_ready (rs := [23]) (by kernel_rfl) (by simp) ?_
      refine AllReadyH.cons rfl (fun K hK => ?_) AllReadyH.nil
      go_simp
      (go_at_call 13; (with_reducible refine (identity_AtN A2 c2 l0.length la who (fr : Int) _ (HSL4.out.next (by repeat (first | with_reducible exact Below.refl _ _ | with_reducible assumption | (with_reducible refine Below.setCell ?_ ?_ _; rotate_left; focus (first | exact Nat.le_refl _ | exact Nat.le_add_right _ _ | (simp; done) | (simp; omega) | omega)) | (with_reducible refine Below.alloc ?_ ?_ _; rotate_left; focus (first | exact Nat.le_refl _ | exact Nat.le_add_right _ _ | (simp; done) | (simp; omega) | omega)) | with_reducible refine Below.drew ?_ | with_reducible refine below_drewN ?_ _ | (with_reducible refine below_nextN ?_ (by with_reducible assumption) ?_; rotate_left; focus (first | exact Nat.le_refl _ | exact Nat.le_add_right _ _ | (simp; done) | (simp; omega) | omega))))) HLEN_la.out (by omega) HSN_la.out (by omega) (by omega)).mono ?_); rintro e w23 ⟨⟨o23, A23, c23, ho23, rfl, hs23⟩, hb23⟩; have hx23 : Below W.heap.size W w23 := (by repeat (first | with_reducible exact Below.refl _ _ | with_reducible assumption | (with_reducible refine Below.setCell ?_ ?_ _; rotate_left; focus (first | exact Nat.le_refl _ | exact Nat.le_add_right _ _ | (simp; done) | (simp; omega) | omega)) | (with_reducible refine Below.alloc ?_ ?_ _; rotate_left; focus (first | exact Nat.le_refl _ | exact Nat.le_add_right _ _ | (simp; done) | (simp; omega) | omega)) | with_reducible refine Below.drew ?_ | with_reducible refine below_drewN ?_ _ | (with_reducible refine below_nextN ?_ (by with_reducible assumption) ?_; rotate_left; focus (first | exact Nat.le_refl _ | exact Nat.le_add_right _ _ | (simp; done) | (simp; omega) | omega)))); have hz23 := hx23.size; obtain ⟨ka23, _, _⟩ := keepB hx23 Y mz0; have HO23 := Lib.hid ho23; clear ho23)
      go_wp2_with fail
      refine hK.out _ _ ⟨?_, ?_, ?_, ?_⟩ (fun hHeld => ?_)
      iterate 4 (simp only [*])
      clear hK K
      (try simp only [Act.put, List.getElem_toArray, List.getElem_cons_zero, List.getElem_cons_succ, List.setIfInBounds_toArray, List.set_cons_zero, List.set_cons_succ])
      have hp23 := at_pos HVA.out HVW.out HO23.out
      have hp23' : decide ((0 : Int) < (o23.length : Int)) = true := by simpa using hp23
      have hp23n : decide (0 < o23.length) = true := by simpa using hp23
      refine wpAnyH_take (i := 24) (v := ?_) rfl (by kernel_rfl) (by kernel_rfl) (by kernel_rfl) (fun _ _ _ h => h) (Or.inl ⟨by kernel_rfl, ?_⟩) hHeld ?_
      rotate_left
      · (intro w hSw; (try dsimp only at hSw); go_simp; first | done | with_reducible rfl)
      (try simp only [Act.put, List.getElem_toArray, List.getElem_cons_zero, List.getElem_cons_succ, List.setIfInBounds_toArray, List.set_cons_zero, List.set_cons_succ])
      refine wpAnyH_take (i := 25) (v := ?_) rfl (by kernel_rfl) (by kernel_rfl) (by kernel_rfl) (fun _ _ _ h => h) (Or.inl ⟨by kernel_rfl, ?_⟩) hHeld ?_
      rotate_left
      · (intro w hSw; (try dsimp only at hSw); go_simp; first | done | with_reducible rfl)
      (try simp only [Act.put, List.getElem_toArray, List.getElem_cons_zero, List.getElem_cons_succ, List.setIfInBounds_toArray, List.set_cons_zero, List.set_cons_succ])
      refine wpAnyH_take (i := 26) (v := ?_) rfl (by kernel_rfl) (by kernel_rfl) (by kernel_rfl) (fun _ _ _ h => h) (Or.inl ⟨by kernel_rfl, ?_⟩) hHeld ?_
      rotate_left
      · (intro w hSw; (try dsimp only at hSw); go_simp; first | done | with_reducible rfl)
      (try simp only [Act.put, List.getElem_toArray, List.getElem_cons_zero, List.getElem_cons_succ, List.setIfInBounds_toArray, List.set_cons_zero, List.set_cons_succ])
      refine wpAnyH_take (i := 27) (v := ?_) rfl (by kernel_rfl) (by kernel_rfl) (by kernel_rfl) (fun _ _ _ h => h) (Or.inl ⟨by kernel_rfl, ?_⟩) hHeld ?_
      rotate_left
      · (intro w hSw; (try dsimp only at hSw); go_simp; first | done | with_reducible rfl)
      (try simp only [Act.put, List.getElem_toArray, List.getElem_cons_zero, List.getElem_cons_succ, List.setIfInBounds_toArray, List.set_cons_zero, List.set_cons_succ])
      refine wpAnyH_ready (rs := [28]) (by kernel_rfl) (by simp) ?_
      refine AllReadyH.cons rfl (fun K hK => ?_) AllReadyH.nil
      go_simp
      (go_at_call 14; refine (awake_any _).mono ?_; rintro e w28 ⟨rfl, hb28⟩; have hx28 : Below W.heap.size W w28 := (by repeat (first | with_reducible exact Below.refl _ _ | with_reducible assumption | (with_reducible refine Below.setCell ?_ ?_ _; rotate_left; focus (first | exact Nat.le_refl _ | exact Nat.le_add_right _ _ | (simp; done) | (simp; omega) | omega)) | (with_reducible refine Below.alloc ?_ ?_ _; rotate_left; focus (first | exact Nat.le_refl _ | exact Nat.le_add_right _ _ | (simp; done) | (simp; omega) | omega)) | with_reducible refine Below.drew ?_ | with_reducible refine below_drewN ?_ _ | (with_reducible refine below_nextN ?_ (by with_reducible assumption) ?_; rotate_left; focus (first | exact Nat.le_refl _ | exact Nat.le_add_right _ _ | (simp; done) | (simp; omega) | omega)))); obtain ⟨ka28, _, _⟩ := keepB hx28 Y mz0)
      go_wp2_with fail
      refine hK.out _ _ ⟨?_, ?_, ?_, ?_⟩ (fun hHeld => ?_)
      iterate 4 (simp only [*])
      clear hK K
      (try simp only [Act.put, List.getElem_toArray, List.getElem_cons_zero, List.getElem_cons_succ, List.setIfInBounds_toArray, List.set_cons_zero, List.set_cons_succ])
      refine wpAnyH_take (i := 29) (v := ?_) rfl (by kernel_rfl) (by kernel_rfl) (by kernel_rfl) (fun _ _ _ h => h) (Or.inl ⟨by kernel_rfl, ?_⟩) hHeld ?_
      rotate_left
      · (intro w hSw; (try dsimp only at hSw); go_simp; first | done | with_reducible rfl)
      (try simp only [Act.put, List.getElem_toArray, List.getElem_cons_zero, List.getElem_cons_succ, List.setIfInBounds_toArray, List.set_cons_zero, List.set_cons_succ])
      refine wpAnyH_take (i := 30) (v := ?_) rfl (by kernel_rfl) (by kernel_rfl) (by kernel_rfl) (fun _ _ _ h => h) (Or.inl ⟨by kernel_rfl, ?_⟩) hHeld ?_
      rotate_left
      · (intro w hSw; (try dsimp only at hSw); go_simp; first | done | with_reducible rfl)
      (try simp only [Act.put, List.getElem_toArray, List.getElem_cons_zero, List.getElem_cons_succ, List.setIfInBounds_toArray, List.set_cons_zero, List.set_cons_succ])
      refine wpAnyH_done (by kernel_rfl) ?_ _
      clear hHeld p0 p1 p2 p3 ka3 ka6 ka7 ka12 ka16 ka17 ka23 ka28
      go_wp2
      go_ret
      exact ⟨rfl, below_next hbW hx28⟩
end Go.Proofs.Ytoleifehijccmaa
