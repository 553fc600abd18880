/-
  Layer 16: identity.Linked, for every list of links and every two identifiers.
-/
import Derived.Test.YtoleifehijccmaaSubject
namespace Go.Proofs.Ytoleifehijccmaa
set_option linter.unusedVariables false
open Go.RowKit

theorem idle_Linked (w : World) : CallsD Try.prog 54 #[] .returning w fun e u' w' => e = .returned (.tuple #[]) ∧ u' = .returning ∧ w' = w := by
  refine callsD_of_wpS Try.func54 rfl fun c₀ cs hu => ?_
  apply wpS_region
  cases c₀
  simp_all [wpOpsS, go_sem, recoverD, Try.ntmps54, bodyPostS, results, Try.results54]
/-- A world that differs from w by new blocks and by a forest with the same roots. -/
structure RootOf (w : World) (g : Nat) (f : List Nat) where
  u : World
  h : IntBlk w g f → ∃ f', IntBlk u g f' ∧ SameRoots f f'
  k : w.grownBy u (some g)
theorem grown_refl (w : World) (row : Option Nat) : w.grownBy w row := ⟨rfl, rfl, rfl, Nat.le_refl _, fun _ _ _ => rfl⟩
instance (w : World) (g : Nat) (f : List Nat) : Inhabited (RootOf w g f) := ⟨⟨w, fun h => ⟨f, h, SameRoots.refl f⟩, grown_refl w _⟩⟩
theorem wp_region_root {P : Program} {id : Nat} {Q : Exit → Act → World → Prop} {a : Act} {w : World} {g : Nat} {f : List Nat} {l : List Oper} (hm : P.follows .mixedOrders = true) (hB : Region.lexB .any l.toArray = true)
    (h : wpQuiet P l.toArray (fun w' => ∃ x : RootOf w g f, w' = x.u) (fun a' => ∀ w', (∃ x : RootOf w g f, w' = x.u) → Q .normal a' w') l a) : (Code.region id l.toArray true).wp P Q a w :=
  wp_region_quiet (C := fun w' => ∃ x : RootOf w g f, w' = x.u) hm hB ⟨⟨w.drew, fun h => ⟨f, h, SameRoots.refl f⟩, grown_drew (grown_refl w _)⟩, rfl⟩ (by simpa using h)
theorem keepR {w : World} {g : Nat} {f : List Nat} (b : Nat) (hb : b < w.heap.size) (hne : b ≠ g) : ∀ (x : RootOf w g f) (o : Nat), x.u.cell? ⟨b, o, none⟩ = w.cell? ⟨b, o, none⟩ :=
  fun x o => World.cell?_of_block (x.k.block b hb (fun e => by injection e with e; exact hne e))
theorem root_of {g n : Nat} {f : List Nat} {i r : Nat} {w : World} (x : RootOf w g f) (hI : IntBlk w g f) (hf : Forest f) (hr : Root f i r) (hn : f.length = n) (hi : i < n) (hlen : n ≤ 1000000) :
    Calls Try.prog 56 #[.slice (some ⟨g, 0, none⟩) n n, .int .i64 i] x.u fun e w'' => e = .returned (.int .i64 r) ∧ ∃ y : RootOf w g f, w'' = y.u := by
  obtain ⟨f', hI', hs'⟩ := x.h hI
  refine (forest_rootN g n n f' i x.u hI' (hs'.forest hf) (hs'.len.trans hn) hi hlen).mono ?_
  rintro e w' ⟨r', f2, hr', hs2, rfl, hI2, hg2⟩
  have e : r' = r := ((hs'.2 i r').2 hr').unique hr
  subst e
  exact ⟨rfl, ⟨w', fun _ => ⟨f2, hI2, hs'.trans hs2⟩, grown_trans x.k hg2⟩, rfl⟩
theorem index_of {g : Nat} {f : List Nat} {w : World} (x : RootOf w g f) (A : Option Addr) (c : Nat) (l : List Ident) (EA : Option Addr) (en ec : Nat) (y : Ident) (w3 : World) (h3 : Below w3.heap.size w3 w) (hg : w3.heap.size ≤ g) (hl : SliceIs w3 w3.heap.size Ident.cells 4 A l) (hn : l.length ≤ 1000000) (ha : Asc l) :
    Calls Try.prog 57 #[.agg #[.slice A l.length c, .slice EA en ec], .agg #[.string y.ns, .int .i64 y.val.kind, .int .i64 y.val.num, .string y.val.text]] x.u fun e w'' => e = .returned (.int .i64 (insK l y)) ∧ ∃ z : RootOf w g f, w'' = z.u := by
  have hb : Below w3.heap.size w3 x.u := Below.grown h3 x.k h3.size (fun q e => by injection e with e; omega)
  refine (graph_index A c l (.slice EA en ec) y x.u ⟨_, _, _, rfl⟩ (hl.next hb) hn ha).mono ?_
  rintro e w' ⟨rfl, hb'⟩
  refine ⟨rfl, ⟨w', fun h => ?_, grown_below x.k hb'⟩, rfl⟩
  obtain ⟨f', hI', hs'⟩ := x.h h
  exact ⟨f', Blk.below hI' hb' (Blk.lt hI'), hs'⟩

set_option maxRecDepth 100000 in
set_option maxHeartbeats 2000000 in
theorem identity_Linked (A : Option Addr) (c : Nat) (l : List Link) (a b : Ident) (seq : Int) (w : World) (hl : SliceIs w w.heap.size Link.cells 10 A l) (hn : l.length ≤ 1000000) (hs : Sane l) (hs1 : a.ns.size ≤ 1000000) (hs2 : b.ns.size ≤ 1000000) (hseq : seq ≤ 9223372036854775807) :
    Calls Try.prog 29 #[.slice A l.length c, .agg #[.string a.ns, .int .i64 a.val.kind, .int .i64 a.val.num, .string a.val.text], .agg #[.string b.ns, .int .i64 b.val.kind, .int .i64 b.val.num, .string b.val.text], .int .i64 seq] w fun e w' =>
      (∃ r, LinkedOut l a b seq r ∧ e = .returned (.bool r)) ∧ Below w.heap.size w w' := by
  have HS := Lib.hid hs
  have HL := Lib.hid hl
  have HQ := Lib.hid hseq
  clear hs hl hseq
  cases hv : validLinks l
  · have HV := Lib.hid hv
    clear hv
    go_enter_defers Try.func29, Try.ntmps29
    go_wp2_with (go_at_call 12; go_must (with_reducible refine (identity_ValidR (A := A) (c := c) (l := l) ?_ hn HS.out HV.out).mono ?_); (exact HL.out.next (by repeat (first | with_reducible exact Below.refl _ _ | with_reducible assumption | (with_reducible refine Below.setCell ?_ ?_ _; rotate_left; focus (first | exact Nat.le_refl _ | exact Nat.le_add_right _ _ | (simp; done) | (simp; omega) | omega)) | (with_reducible refine Below.alloc ?_ ?_ _; rotate_left; focus (first | exact Nat.le_refl _ | exact Nat.le_add_right _ _ | (simp; done) | (simp; omega) | omega)) | with_reducible refine Below.drew ?_ | with_reducible refine below_drewN ?_ _ | (with_reducible refine below_nextN ?_ (by with_reducible assumption) ?_; rotate_left; focus (first | exact Nat.le_refl _ | exact Nat.le_add_right _ _ | (simp; done) | (simp; omega) | omega))))); rintro e w1 ⟨rfl, hb1⟩; obtain ⟨c0, f0, z0⟩ := keepB hb1 w.heap.size (by first | assumption | (simp; done) | (simp; omega) | omega); obtain ⟨d0, g0, q0⟩ := keepB hb1 (w.heap.size + 1) (by first | assumption | (simp; done) | (simp; omega) | omega); have hx1 : Below w.heap.size w w1 := below_nextN (by repeat (first | with_reducible exact Below.refl _ _ | with_reducible assumption | (with_reducible refine Below.setCell ?_ ?_ _; rotate_left; focus (first | exact Nat.le_refl _ | exact Nat.le_add_right _ _ | (simp; done) | (simp; omega) | omega)) | (with_reducible refine Below.alloc ?_ ?_ _; rotate_left; focus (first | exact Nat.le_refl _ | exact Nat.le_add_right _ _ | (simp; done) | (simp; omega) | omega)) | with_reducible refine Below.drew ?_ | with_reducible refine below_drewN ?_ _ | (with_reducible refine below_nextN ?_ (by with_reducible assumption) ?_; rotate_left; focus (first | exact Nat.le_refl _ | exact Nat.le_add_right _ _ | (simp; done) | (simp; omega) | omega)))) hb1 (by first | exact Nat.le_refl _ | exact Nat.le_add_right _ _ | assumption | (simp; done) | (simp; omega) | omega))
    refine leaves_cons (f := 54) (args := #[]) (by simp) (by simp [go_sem]) ?_; refine (idle_Linked _).mono ?_; rintro e u' w'' ⟨rfl, rfl, rfl⟩; refine ⟨_, results_tmp rfl _ _ _, ?_⟩
    exact ⟨⟨_, linked_no (fun h => by rw [HV.out] at h; cases h.1), rfl⟩, hx1⟩
  · have HV := Lib.hid hv
    clear hv
    cases hw : validId a
    · have HW := Lib.hid hw
      clear hw
      go_enter_defers Try.func29, Try.ntmps29
      go_wp2_with (first | (go_at_call 12; go_must (with_reducible refine (identity_ValidR (A := A) (c := c) (l := l) ?_ hn HS.out HV.out).mono ?_); (exact HL.out.next (by repeat (first | with_reducible exact Below.refl _ _ | with_reducible assumption | (with_reducible refine Below.setCell ?_ ?_ _; rotate_left; focus (first | exact Nat.le_refl _ | exact Nat.le_add_right _ _ | (simp; done) | (simp; omega) | omega)) | (with_reducible refine Below.alloc ?_ ?_ _; rotate_left; focus (first | exact Nat.le_refl _ | exact Nat.le_add_right _ _ | (simp; done) | (simp; omega) | omega)) | with_reducible refine Below.drew ?_ | with_reducible refine below_drewN ?_ _ | (with_reducible refine below_nextN ?_ (by with_reducible assumption) ?_; rotate_left; focus (first | exact Nat.le_refl _ | exact Nat.le_add_right _ _ | (simp; done) | (simp; omega) | omega))))); rintro e w1 ⟨rfl, hb1⟩; obtain ⟨c0, f0, z0⟩ := keepB hb1 w.heap.size (by first | assumption | (simp; done) | (simp; omega) | omega); obtain ⟨d0, g0, q0⟩ := keepB hb1 (w.heap.size + 1) (by first | assumption | (simp; done) | (simp; omega) | omega); have hx1 : Below w.heap.size w w1 := below_nextN (by repeat (first | with_reducible exact Below.refl _ _ | with_reducible assumption | (with_reducible refine Below.setCell ?_ ?_ _; rotate_left; focus (first | exact Nat.le_refl _ | exact Nat.le_add_right _ _ | (simp; done) | (simp; omega) | omega)) | (with_reducible refine Below.alloc ?_ ?_ _; rotate_left; focus (first | exact Nat.le_refl _ | exact Nat.le_add_right _ _ | (simp; done) | (simp; omega) | omega)) | with_reducible refine Below.drew ?_ | with_reducible refine below_drewN ?_ _ | (with_reducible refine below_nextN ?_ (by with_reducible assumption) ?_; rotate_left; focus (first | exact Nat.le_refl _ | exact Nat.le_add_right _ _ | (simp; done) | (simp; omega) | omega)))) hb1 (by first | exact Nat.le_refl _ | exact Nat.le_add_right _ _ | assumption | (simp; done) | (simp; omega) | omega)) | (go_at_call 25; (with_reducible refine (identity_ValidId a _ hs1 HW.out).mono ?_); rintro e w2 ⟨rfl, hb2⟩; obtain ⟨c1, f1, z1⟩ := keepE hb2 w.heap.size (by first | assumption | (simp; done) | (simp; omega) | omega); obtain ⟨d1, g1, q1⟩ := keepE hb2 (w.heap.size + 1) (by first | assumption | (simp; done) | (simp; omega) | omega); have hx2 : Below w.heap.size w w2 := below_nextN hx1 hb2.1 hx1.size; have hsz2 := hx2.size))
      refine leaves_cons (f := 54) (args := #[]) (by simp) (by simp [go_sem]) ?_; refine (idle_Linked _).mono ?_; rintro e u' w'' ⟨rfl, rfl, rfl⟩; refine ⟨_, results_tmp rfl _ _ _, ?_⟩
      exact ⟨⟨_, linked_no (fun h => by rw [HW.out] at h; cases h.2.1), rfl⟩, hx2⟩
    · have HW := Lib.hid hw
      clear hw
      cases hw2 : validId b
      · have HW2 := Lib.hid hw2
        clear hw2
        go_enter_defers Try.func29, Try.ntmps29
        go_wp2_with (first | (go_at_call 12; go_must (with_reducible refine (identity_ValidR (A := A) (c := c) (l := l) ?_ hn HS.out HV.out).mono ?_); (exact HL.out.next (by repeat (first | with_reducible exact Below.refl _ _ | with_reducible assumption | (with_reducible refine Below.setCell ?_ ?_ _; rotate_left; focus (first | exact Nat.le_refl _ | exact Nat.le_add_right _ _ | (simp; done) | (simp; omega) | omega)) | (with_reducible refine Below.alloc ?_ ?_ _; rotate_left; focus (first | exact Nat.le_refl _ | exact Nat.le_add_right _ _ | (simp; done) | (simp; omega) | omega)) | with_reducible refine Below.drew ?_ | with_reducible refine below_drewN ?_ _ | (with_reducible refine below_nextN ?_ (by with_reducible assumption) ?_; rotate_left; focus (first | exact Nat.le_refl _ | exact Nat.le_add_right _ _ | (simp; done) | (simp; omega) | omega))))); rintro e w1 ⟨rfl, hb1⟩; obtain ⟨c0, f0, z0⟩ := keepB hb1 w.heap.size (by first | assumption | (simp; done) | (simp; omega) | omega); obtain ⟨d0, g0, q0⟩ := keepB hb1 (w.heap.size + 1) (by first | assumption | (simp; done) | (simp; omega) | omega); have hx1 : Below w.heap.size w w1 := below_nextN (by repeat (first | with_reducible exact Below.refl _ _ | with_reducible assumption | (with_reducible refine Below.setCell ?_ ?_ _; rotate_left; focus (first | exact Nat.le_refl _ | exact Nat.le_add_right _ _ | (simp; done) | (simp; omega) | omega)) | (with_reducible refine Below.alloc ?_ ?_ _; rotate_left; focus (first | exact Nat.le_refl _ | exact Nat.le_add_right _ _ | (simp; done) | (simp; omega) | omega)) | with_reducible refine Below.drew ?_ | with_reducible refine below_drewN ?_ _ | (with_reducible refine below_nextN ?_ (by with_reducible assumption) ?_; rotate_left; focus (first | exact Nat.le_refl _ | exact Nat.le_add_right _ _ | (simp; done) | (simp; omega) | omega)))) hb1 (by first | exact Nat.le_refl _ | exact Nat.le_add_right _ _ | assumption | (simp; done) | (simp; omega) | omega)) | (go_at_call 25; (with_reducible refine (identity_ValidId b _ hs2 HW2.out).mono ?_); rintro e w2' ⟨rfl, hb2'⟩; obtain ⟨c2, f2, z2⟩ := keepE hb2' w.heap.size (by first | assumption | (simp; done) | (simp; omega) | omega); obtain ⟨d2, g2, q2⟩ := keepE hb2' (w.heap.size + 1) (by first | assumption | (simp; done) | (simp; omega) | omega); have hx2' : Below w.heap.size w w2' := below_nextN hx2 hb2'.1 hx2.size; have hsz2' := hx2'.size) | (go_at_call 25; (with_reducible refine (identity_ValidId a _ hs1 HW.out).mono ?_); rintro e w2 ⟨rfl, hb2⟩; obtain ⟨c1, f1, z1⟩ := keepE hb2 w.heap.size (by first | assumption | (simp; done) | (simp; omega) | omega); obtain ⟨d1, g1, q1⟩ := keepE hb2 (w.heap.size + 1) (by first | assumption | (simp; done) | (simp; omega) | omega); have hx2 : Below w.heap.size w w2 := below_nextN hx1 hb2.1 hx1.size; have hsz2 := hx2.size))
        refine leaves_cons (f := 54) (args := #[]) (by simp) (by simp [go_sem]) ?_; refine (idle_Linked _).mono ?_; rintro e u' w'' ⟨rfl, rfl, rfl⟩; refine ⟨_, results_tmp rfl _ _ _, ?_⟩
        exact ⟨⟨_, linked_no (fun h => by rw [HW2.out] at h; cases h.2.2), rfl⟩, hx2'⟩
      · have HW2 := Lib.hid hw2
        clear hw2
        go_enter_defers Try.func29, Try.ntmps29
        go_wp2_with (first | (go_at_call 12; go_must (with_reducible refine (identity_ValidR (A := A) (c := c) (l := l) ?_ hn HS.out HV.out).mono ?_); (exact HL.out.next (by repeat (first | with_reducible exact Below.refl _ _ | with_reducible assumption | (with_reducible refine Below.setCell ?_ ?_ _; rotate_left; focus (first | exact Nat.le_refl _ | exact Nat.le_add_right _ _ | (simp; done) | (simp; omega) | omega)) | (with_reducible refine Below.alloc ?_ ?_ _; rotate_left; focus (first | exact Nat.le_refl _ | exact Nat.le_add_right _ _ | (simp; done) | (simp; omega) | omega)) | with_reducible refine Below.drew ?_ | with_reducible refine below_drewN ?_ _ | (with_reducible refine below_nextN ?_ (by with_reducible assumption) ?_; rotate_left; focus (first | exact Nat.le_refl _ | exact Nat.le_add_right _ _ | (simp; done) | (simp; omega) | omega))))); rintro e w1 ⟨rfl, hb1⟩; obtain ⟨c0, f0, z0⟩ := keepB hb1 w.heap.size (by first | assumption | (simp; done) | (simp; omega) | omega); obtain ⟨d0, g0, q0⟩ := keepB hb1 (w.heap.size + 1) (by first | assumption | (simp; done) | (simp; omega) | omega); have hx1 : Below w.heap.size w w1 := below_nextN (by repeat (first | with_reducible exact Below.refl _ _ | with_reducible assumption | (with_reducible refine Below.setCell ?_ ?_ _; rotate_left; focus (first | exact Nat.le_refl _ | exact Nat.le_add_right _ _ | (simp; done) | (simp; omega) | omega)) | (with_reducible refine Below.alloc ?_ ?_ _; rotate_left; focus (first | exact Nat.le_refl _ | exact Nat.le_add_right _ _ | (simp; done) | (simp; omega) | omega)) | with_reducible refine Below.drew ?_ | with_reducible refine below_drewN ?_ _ | (with_reducible refine below_nextN ?_ (by with_reducible assumption) ?_; rotate_left; focus (first | exact Nat.le_refl _ | exact Nat.le_add_right _ _ | (simp; done) | (simp; omega) | omega)))) hb1 (by first | exact Nat.le_refl _ | exact Nat.le_add_right _ _ | assumption | (simp; done) | (simp; omega) | omega)) | (go_at_call 25; (with_reducible refine (identity_ValidId b _ hs2 HW2.out).mono ?_); rintro e w2' ⟨rfl, hb2'⟩; obtain ⟨c2, f2, z2⟩ := keepE hb2' w.heap.size (by first | assumption | (simp; done) | (simp; omega) | omega); obtain ⟨d2, g2, q2⟩ := keepE hb2' (w.heap.size + 1) (by first | assumption | (simp; done) | (simp; omega) | omega); have hx2' : Below w.heap.size w w2' := below_nextN hx2 hb2'.1 hx2.size; have hsz2' := hx2'.size) | (go_at_call 25; (with_reducible refine (identity_ValidId a _ hs1 HW.out).mono ?_); rintro e w2 ⟨rfl, hb2⟩; obtain ⟨c1, f1, z1⟩ := keepE hb2 w.heap.size (by first | assumption | (simp; done) | (simp; omega) | omega); obtain ⟨d1, g1, q1⟩ := keepE hb2 (w.heap.size + 1) (by first | assumption | (simp; done) | (simp; omega) | omega); have hx2 : Below w.heap.size w w2 := below_nextN hx1 hb2.1 hx1.size; have hsz2 := hx2.size) | (go_at_call 36; go_must (refine (newGraph_anyN A c l w2'.heap.size 0 2 2 [a, b] _ ?_ HV.out ?_ rfl (by omega) (by omega) ?_).mono ?_); (exact HL.out.next (by repeat (first | with_reducible exact Below.refl _ _ | with_reducible assumption | (with_reducible refine Below.setCell ?_ ?_ _; rotate_left; focus (first | exact Nat.le_refl _ | exact Nat.le_add_right _ _ | (simp; done) | (simp; omega) | omega)) | (with_reducible refine Below.alloc ?_ ?_ _; rotate_left; focus (first | exact Nat.le_refl _ | exact Nat.le_add_right _ _ | (simp; done) | (simp; omega) | omega)) | with_reducible refine Below.drew ?_ | with_reducible refine below_drewN ?_ _ | (with_reducible refine below_nextN ?_ (by with_reducible assumption) ?_; rotate_left; focus (first | exact Nat.le_refl _ | exact Nat.le_add_right _ _ | (simp; done) | (simp; omega) | omega))))); (exact ident_two (Blk.new' rfl) (by simp)); (exact fun y hy => by simp at hy; rcases hy with rfl | rfl; exact HW.out; exact HW2.out); rintro e w3 ⟨⟨v3, rfl, A3, c3, EA, ec, ns, rfl, hs3, hsE, hna, hmore, hnl⟩, hb3⟩; obtain ⟨c3', f3', z3⟩ := keepB hb3 w.heap.size (by first | assumption | (simp; done) | (simp; omega) | omega); obtain ⟨d3, g3, q3⟩ := keepB hb3 (w.heap.size + 1) (by first | assumption | (simp; done) | (simp; omega) | omega); have hx3 : Below w.heap.size w w3 := below_nextN (by repeat (first | with_reducible exact Below.refl _ _ | with_reducible assumption | (with_reducible refine Below.setCell ?_ ?_ _; rotate_left; focus (first | exact Nat.le_refl _ | exact Nat.le_add_right _ _ | (simp; done) | (simp; omega) | omega)) | (with_reducible refine Below.alloc ?_ ?_ _; rotate_left; focus (first | exact Nat.le_refl _ | exact Nat.le_add_right _ _ | (simp; done) | (simp; omega) | omega)) | with_reducible refine Below.drew ?_ | with_reducible refine below_drewN ?_ _ | (with_reducible refine below_nextN ?_ (by with_reducible assumption) ?_; rotate_left; focus (first | exact Nat.le_refl _ | exact Nat.le_add_right _ _ | (simp; done) | (simp; omega) | omega)))) hb3 (by first | exact Nat.le_refl _ | exact Nat.le_add_right _ _ | assumption | (simp; done) | (simp; omega) | omega); have hsz3 := hx3.size; have hnl' : ns.length ≤ 1000000 := (by have := validLinks_len HV.out; simp at hnl; omega); have HS3 := Lib.hid hs3; have HSE := Lib.hid hsE; have HNA := Lib.hid hna; have HMA := Lib.hid (hmore a (by simp)); have HMB := Lib.hid (hmore b (by simp)); clear hs3 hsE hna hmore hnl) | (go_at_call 55; go_must (refine (graph_components A3 c3 ns.length EA ec (edgesOf ns l) seq _ hnl' ?_ ?_ (edgesOf_range HNA.out.asc HNA.out.valid HNA.out.ends)).mono ?_); (exact HSE.out.next (by repeat (first | with_reducible exact Below.refl _ _ | with_reducible assumption | (with_reducible refine Below.setCell ?_ ?_ _; rotate_left; focus (first | exact Nat.le_refl _ | exact Nat.le_add_right _ _ | (simp; done) | (simp; omega) | omega)) | (with_reducible refine Below.alloc ?_ ?_ _; rotate_left; focus (first | exact Nat.le_refl _ | exact Nat.le_add_right _ _ | (simp; done) | (simp; omega) | omega)) | with_reducible refine Below.drew ?_ | with_reducible refine below_drewN ?_ _ | (with_reducible refine below_nextN ?_ (by with_reducible assumption) ?_; rotate_left; focus (first | exact Nat.le_refl _ | exact Nat.le_add_right _ _ | (simp; done) | (simp; omega) | omega))))); (have := edgesOf_len ns l; omega); rintro e w4 ⟨⟨g, f, rfl, hf4, hg4, hst⟩, hb4⟩; simp only [World.size_alloc] at hg4; obtain ⟨c4, f4, z4⟩ := keepB hb4 w.heap.size (by first | assumption | (simp; done) | (simp; omega) | omega); obtain ⟨d4, g4, q4⟩ := keepB hb4 (w.heap.size + 1) (by first | assumption | (simp; done) | (simp; omega) | omega); obtain ⟨e4, h4, r4⟩ := keepB hb4 w3.heap.size (by first | assumption | (simp; done) | (simp; omega) | omega); have hbel4 : Below w3.heap.size w3 w4 := below_nextN (by repeat (first | with_reducible exact Below.refl _ _ | with_reducible assumption | (with_reducible refine Below.setCell ?_ ?_ _; rotate_left; focus (first | exact Nat.le_refl _ | exact Nat.le_add_right _ _ | (simp; done) | (simp; omega) | omega)) | (with_reducible refine Below.alloc ?_ ?_ _; rotate_left; focus (first | exact Nat.le_refl _ | exact Nat.le_add_right _ _ | (simp; done) | (simp; omega) | omega)) | with_reducible refine Below.drew ?_ | with_reducible refine below_drewN ?_ _ | (with_reducible refine below_nextN ?_ (by with_reducible assumption) ?_; rotate_left; focus (first | exact Nat.le_refl _ | exact Nat.le_add_right _ _ | (simp; done) | (simp; omega) | omega)))) hb4 (by first | exact Nat.le_refl _ | exact Nat.le_add_right _ _ | assumption | (simp; done) | (simp; omega) | omega); have HF := Lib.hid hf4; have HST := Lib.hid hst; clear hf4 hst))
        have hlen := HST.out.len
        have hia := insK_mem HNA.out.asc HNA.out.valid HMA.out
        have hib := insK_mem HNA.out.asc HNA.out.valid HMB.out
        obtain ⟨ra, hra⟩ := HST.out.forest (insK ns a) (by rw [hlen]; exact hia.1)
        obtain ⟨rb, hrb⟩ := HST.out.forest (insK ns b) (by rw [hlen]; exact hib.1)
        have hcon : (ra = rb) ↔ Reach l seq a b := by
          rw [HST.out.conn _ _ _ _ hra hrb, conn_reach HNA.out (validLinks_asc HV.out) HQ.out HMA.out hib.1]
          have := hib.2
          rw [List.getElem?_eq_getElem hib.1] at this
          injection this with this
          rw [this]
        have HLEN := Lib.hid hlen
        have HIA := Lib.hid hia.1
        have HIB := Lib.hid hib.1
        have HRA := Lib.hid hra
        have HRB := Lib.hid hrb
        have HCON := Lib.hid hcon
        clear hlen hia hib hra hrb hcon
        have hk0 := keepR (w := w4) (g := g) (f := f) w.heap.size z4 (by omega)
        have hk1 := keepR (w := w4) (g := g) (f := f) (w.heap.size + 1) q4 (by omega)
        have hk2 := keepR (w := w4) (g := g) (f := f) w3.heap.size r4 (by omega)
        refine wp_region_root (g := g) (f := f) (by kernel_rfl) (by kernel_rfl) ?_
        repeat (go_big_quiet_step (first
          | (go_at_call 57; with_reducible exact index_of _ A3 c3 ns EA (edgesOf ns l).length ec a w3 hbel4 (by omega) HS3.out hnl' HNA.out.asc)
          | (go_at_call 57; with_reducible exact index_of _ A3 c3 ns EA (edgesOf ns l).length ec b w3 hbel4 (by omega) HS3.out hnl' HNA.out.asc)
          | (go_at_call 56; with_reducible exact root_of _ HF.out HST.out.forest HRA.out HLEN.out HIA.out hnl')
          | (go_at_call 56; with_reducible exact root_of _ HF.out HST.out.forest HRB.out HLEN.out HIB.out hnl')))
        refine wpQuiet_nil ?_
        rintro wq ⟨xq, rfl⟩
        have hxq : Below w.heap.size w xq.u := hx3.trans ((Below.grown hbel4 xq.k hbel4.size (fun q e => by injection e with e; omega)).mono hsz3)
        clear hk0 hk1 hk2
        go_wp2
        refine leaves_cons (f := 54) (args := #[]) (by simp) (by simp [go_sem]) ?_; refine (idle_Linked _).mono ?_; rintro e u' w'' ⟨rfl, rfl, rfl⟩; refine ⟨_, results_tmp rfl _ _ _, ?_⟩
        refine ⟨⟨((ra : Int) == (rb : Int)), ?_, rfl⟩, hxq⟩
        unfold LinkedOut
        rw [beq_iff_eq]
        constructor
        · exact fun h => ⟨HV.out, HW.out, HW2.out, HCON.out.1 (by omega)⟩
        · intro h
          rw [HCON.out.2 h.2.2.2]
end Go.Proofs.Ytoleifehijccmaa
