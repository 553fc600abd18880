/-
  Layer 16: newGraph.
-/
import Derived.Test.YtoleifehijccmaaSort
import Derived.Test.YtoleifehijccmaaClone
import Derived.Test.YtoleifehijccmaaLink
import Derived.BigRegion
namespace Go.Proofs.Ytoleifehijccmaa
set_option linter.unusedVariables false
open Go.RowKit

/-- The two ends of each link. -/
def endsOf (ls : List Link) : List Ident := ls.flatMap fun x => [x.a, x.b]

theorem endsOf_succ (ls : List Link) (m : Nat) (h : m < ls.length) : endsOf (ls.take (m + 1)) = endsOf (ls.take m) ++ [ls[m].a, ls[m].b] := by
  unfold endsOf
  rw [List.take_succ_eq_append_getElem h, List.flatMap_append]
  simp
theorem endsOf_len (ls : List Link) : (endsOf ls).length = 2 * ls.length := by
  unfold endsOf
  induction ls with
  | nil => rfl
  | cons x l ih => simp [List.flatMap_cons, ih]; omega
theorem ident_two {w : World} {g B : Nat} {t : TypeId} {x y : Ident} (h : Blk w g t (Ident.cells x ++ Ident.cells y).toArray) (hB : g < B) : SliceIs w B Ident.cells 4 (some ⟨g, 0, none⟩) [x, y] := by
  intro _
  refine ⟨g, 0, rfl, hB, fun i hi j u hu => ?_⟩
  rw [h.cell]
  match i, hi with
  | 0, _ =>
    have hj : j < 4 := (List.getElem?_eq_some_iff.1 hu).1
    simp only [List.getElem?_toArray]
    rw [List.getElem?_append_left (by simpa [Ident.cells] using hj)]
    simpa using hu
  | 1, _ =>
    simp only [List.getElem?_toArray]
    rw [List.getElem?_append_right (by simp [Ident.cells])]
    simpa [Ident.cells] using hu

theorem Owns.some_of_pos {α : Type} {w : World} {base : Nat} {e : TypeId} {enc : α → List Value} {k : Nat} {v : Value} {l : List α} (h : Owns w base e enc k v l) (h0 : 0 < l.length) : ∃ g cap, v = .slice (some ⟨g, 0, none⟩) l.length cap ∧ base ≤ g := by
  rcases h.2 with ⟨_, h1⟩ | ⟨g, cap, cur, rfl, hb, _⟩
  · omega
  · exact ⟨g, cap, rfl, hb⟩
theorem sort_anyN (base g c n : Nat) (l : List Ident) (w : World) (hl : l.length = n) (h : Owns w base 27 Ident.cells 4 (.slice (some ⟨g, 0, none⟩) n c) l) (hn : n ≤ 1000000) :
    Calls Try.prog 67 #[.slice (some ⟨g, 0, none⟩) n c, .func (.func 27) #[] #[]] w fun e w' =>
      e = .returned (.tuple #[]) ∧ ∃ l' : List Ident, l'.Perm l ∧ Weak l' ∧ Owns w' base 27 Ident.cells 4 (.slice (some ⟨g, 0, none⟩) n c) l' ∧ w.grownBy w' (some g) := by
  subst hl
  exact sort_any base g c l w h hn
theorem compact_anyN (base g c n : Nat) (l : List Ident) (w : World) (hl : l.length = n) (h : Owns w base 27 Ident.cells 4 (.slice (some ⟨g, 0, none⟩) n c) l) (hn : n ≤ 1000000) :
    Calls Try.prog 68 #[.slice (some ⟨g, 0, none⟩) n c, .func (.func 69) #[] #[]] w fun e w' =>
      (∃ A' c' ns, ns = dedup l ∧ e = .returned (.slice A' ns.length c') ∧ ns.length ≤ c' ∧ SliceIs w' w'.heap.size Ident.cells 4 A' ns ∧ ∀ a, A' = some a → base ≤ a.block) ∧ w.grownBy w' (some g) := by
  subst hl
  refine (compact_any base g c l w h hn).mono ?_
  rintro e w' ⟨⟨v, rfl, ho⟩, hg⟩
  obtain ⟨A', c', rfl, hc', hs', hA⟩ := ho.slice ident_len
  exact ⟨⟨A', c', _, rfl, rfl, hc', hs', fun a h => (hA a h).1⟩, hg⟩
theorem infoPair : (Try.prog.info? 91).map (fun i => (i.zero, i.size, i.bytes)) = some (some (.agg #[.int .i64 0, .int .i64 0]), 2, 16) := by kernel_rfl
theorem flat_set2 {α : Type} {enc : α → List Value} (hk : ∀ x, (enc x).length = 2) : ∀ (l : List α) (i : Nat) (x : α) (a0 a1 : Value), i < l.length → enc x = [a0, a1] →
    (((l.flatMap enc).set (i * 2) a0).set (i * 2 + 1) a1) = (l.set i x).flatMap enc
  | [], _, _, _, _, h, _ => by simp at h
  | y :: l, 0, x, a0, a1, _, hx => by
    obtain ⟨b0, b1, e⟩ : ∃ b0 b1, enc y = [b0, b1] := by
      have := hk y
      match h : enc y, this with
      | [b0, b1], _ => exact ⟨b0, b1, rfl⟩
    simp [List.flatMap_cons, e, hx]
  | y :: l, i + 1, x, a0, a1, h, hx => by
    have ih := flat_set2 hk l i x a0 a1 (by simpa using h) hx
    obtain ⟨b0, b1, e⟩ : ∃ b0 b1, enc y = [b0, b1] := by
      have := hk y
      match h : enc y, this with
      | [b0, b1], _ => exact ⟨b0, b1, rfl⟩
    simp only [List.flatMap_cons, e, List.set_cons_succ]
    rw [← ih]
    rw [show (i + 1) * 2 = i * 2 + 1 + 1 by omega]
    simp
/-- The pairs behind m rounds. -/
def pairRow (ns : List Ident) (ls : List Link) (m : Nat) : List (Nat × Nat) := (ls.take m).map (pairOf ns) ++ List.replicate (ls.length - m) (0, 0)
theorem pairRow_len (ns : List Ident) (ls : List Link) (m : Nat) (h : m ≤ ls.length) : (pairRow ns ls m).length = ls.length := by
  simp [pairRow]; omega
theorem pairRow_all (ns : List Ident) (ls : List Link) : pairRow ns ls ls.length = ls.map (pairOf ns) := by
  simp [pairRow]
theorem pairRow_set (ns : List Ident) (ls : List Link) (m : Nat) (h : m < ls.length) : (pairRow ns ls m).set m (pairOf ns ls[m]) = pairRow ns ls (m + 1) := by
  unfold pairRow
  have e : ls.length - m = (ls.length - (m + 1)) + 1 := by omega
  have hl : ((ls.take m).map (pairOf ns)).length = m := by simp; omega
  rw [e, List.replicate_succ, List.set_append_right _ _ (by omega), hl, List.take_succ_eq_append_getElem h, List.map_append, List.append_assoc]
  simp
def PairBlk (w : World) (g : Nat) (ps : List (Nat × Nat)) : Prop := Blk w g 91 (ps.flatMap pairCells).toArray
theorem PairBlk.cell2 {w : World} {g : Nat} {ps : List (Nat × Nat)} (h : PairBlk w g ps) {i : Nat} (hi : i < ps.length) : w.cell? ⟨g, i * 2, none⟩ = some (.int .i64 ps[i].1) ∧ w.cell? ⟨g, i * 2 + 1, none⟩ = some (.int .i64 ps[i].2) := by
  have h0 := flat_get pair_len ps i hi 0 _ rfl
  have h1 := flat_get pair_len ps i hi 1 _ rfl
  exact ⟨by rw [Blk.cell h]; simpa using h0, by rw [Blk.cell h]; simpa using h1⟩
theorem PairBlk.slice {w : World} {g B : Nat} {ps : List (Nat × Nat)} (h : PairBlk w g ps) (hB : g < B) : SliceIs w B pairCells 2 (some ⟨g, 0, none⟩) ps := fun _ =>
  ⟨g, 0, rfl, hB, fun i hi j u hu => by
    have h0 := flat_get pair_len ps i hi j u hu
    rw [Blk.cell h, Nat.zero_add]
    simpa using h0⟩
theorem PairBlk.set2 {w : World} {g : Nat} {ps : List (Nat × Nat)} (h : PairBlk w g ps) {i : Nat} (hi : i < ps.length) (p : Nat × Nat) : PairBlk ((w.setCell ⟨g, i * 2, none⟩ (.int .i64 p.1)).setCell ⟨g, i * 2 + 1, none⟩ (.int .i64 p.2)) g (ps.set i p) := by
  have h1 := (Blk.set_ h (i * 2) (.int .i64 p.1)).set_ (i * 2 + 1) (.int .i64 p.2)
  unfold PairBlk
  rw [← flat_set2 pair_len ps i p (.int .i64 p.1) (.int .i64 p.2) hi rfl]
  simpa using h1
theorem pairBlk_made {w : World} {g : Nat} (ns : List Ident) (ls : List Link) (hg : w.heap.size = g) : PairBlk (w.alloc (.cells (madeCells #[.int .i64 0, .int .i64 0] (ls.length * 2)) 91)) g (pairRow ns ls 0) := by
  have h := Blk.new' (w := w) (g := g) (t := 91) (cs := madeCells #[.int .i64 0, .int .i64 0] (ls.length * 2)) hg
  have e : madeCells #[Value.int .i64 0, Value.int .i64 0] (ls.length * 2) = ((pairRow ns ls 0).flatMap pairCells).toArray := by
    apply Array.toList_inj.1
    have h1 : (madeCells #[Value.int .i64 0, Value.int .i64 0] (ls.length * 2)).toList = List.replicate (ls.length * 2) (.int .i64 0) := by
      rw [List.eq_replicate_iff]
      refine ⟨by simp [size_madeCells], fun u hu => ?_⟩
      simp only [madeCells, Array.toList_map, List.mem_map] at hu
      obtain ⟨i, _, rfl⟩ := hu
      rcases Nat.mod_two_eq_zero_or_one i with h | h <;> simp [h]
    have h2 : (pairRow ns ls 0).flatMap pairCells = List.replicate (ls.length * 2) (.int .i64 0) := by
      rw [List.eq_replicate_iff]
      refine ⟨by rw [flat_length pair_len, pairRow_len ns ls 0 (by omega)], fun u hu => ?_⟩
      obtain ⟨p, hp, hu⟩ := List.mem_flatMap.1 hu
      simp [pairRow] at hp
      rw [hp.2] at hu
      simpa [pairCells] using hu
    rw [h1, ← h2]
  unfold PairBlk
  rw [← e]
  exact h
theorem PairBlk.rest {w : World} {g B n : Nat} {ps : List (Nat × Nat)} (h : PairBlk w g ps) (hB : g < B) (m : Nat) (hn : ps.length = n) : SliceIs w B pairCells 2 (if n = m then some ⟨g, 0, none⟩ else some ⟨g, m * 2, none⟩) (ps.drop m) := by
  have h1 := (h.slice hB).cut (c := n) m (by omega)
  simpa using h1
theorem index_anyR (A : Option Addr) (c n : Nat) (ps : List (Nat × Nat)) (p : Nat × Nat) (w : World) (hl : SliceIs w w.heap.size pairCells 2 A ps) (hn : n ≤ 1000000) (hp : ps.length = n) {r : Int} (hr : pairIdx ps p = r) :
    Calls Try.prog 70 #[.slice A n c, .agg #[.int .i64 p.1, .int .i64 p.2]] w fun e w' =>
      e = .returned (.int .i64 r) ∧ Below w.heap.size w w' := by
  subst hp hr
  exact index_any A c ps p w hl hn
theorem infoEdge : (Try.prog.info? 93).map (fun i => (i.zero, i.size, i.bytes)) = some (some (.agg #[.int .i64 0, .int .i64 0, .int .i64 0, .int .i64 0]), 4, 32) := by kernel_rfl
theorem edge_len : ∀ x : Edge, (Edge.cells x).length = 4 := fun _ => rfl
theorem edge_one : ∀ x : Edge, ∀ u ∈ Edge.cells x, u.oneCell' = true := by
  intro x u hu
  simp only [Edge.cells, List.mem_cons, List.not_mem_nil, or_false] at hu
  rcases hu with rfl | rfl | rfl | rfl <;> rfl
theorem Owns.far {α : Type} {w : World} {base : Nat} {e : TypeId} {enc : α → List Value} {k : Nat} {v : Value} {l : List α} (h : Owns w base e enc k v l) {p : Addr} (hp : ∀ g, v.ownBlock = some g → g ≠ p.block) (u : Value) : Owns (w.setCell p u) base e enc k v l := by
  refine ⟨h.1, ?_⟩
  rcases h.2 with h1 | ⟨g, cap, cur, rfl, hbs, hg, hr⟩
  · exact .inl h1
  · refine .inr ⟨g, cap, cur, rfl, hbs, ?_, hr⟩
    rw [Below.heap_setCell w p u g (hp g rfl)]
    exact hg
theorem Owns.lt {α : Type} {w : World} {base : Nat} {e : TypeId} {enc : α → List Value} {k : Nat} {v : Value} {l : List α} (h : Owns w base e enc k v l) : ∀ g, v.ownBlock = some g → g < w.heap.size := by
  intro g hg
  obtain ⟨A, c, rfl, _, hA⟩ := h.form
  cases A with
  | none => simp [Value.ownBlock] at hg
  | some a =>
    have : a.block = g := by simpa [Value.ownBlock] using hg
    rw [← this]
    exact (hA a rfl).2
theorem SliceIs.far {α : Type} {w : World} {B : Nat} {enc : α → List Value} {k : Nat} {A : Option Addr} {l : List α} (h : SliceIs w B enc k A l) {p : Addr} (hp : ∀ a, A = some a → a.block ≠ p.block) (u : Value) : SliceIs (w.setCell p u) B enc k A l := by
  intro hl
  obtain ⟨b, o, rfl, hB, hc⟩ := h hl
  exact ⟨b, o, rfl, hB, fun i hi j u' hu => (World.cell?_of_block (Below.heap_setCell w p u b (hp _ rfl))).trans (hc i hi j u' hu)⟩
/-- What newGraph hands back. -/
def GraphIs (w : World) (ls : List Link) (more : List Ident) (v : Value) : Prop :=
  ∃ A c EA ec ns, v = .agg #[.slice A (ns : List Ident).length c, .slice EA (edgesOf ns ls).length ec] ∧ SliceIs w w.heap.size Ident.cells 4 A ns ∧ SliceIs w w.heap.size Edge.cells 4 EA (edgesOf ns ls) ∧ Names ns ls ∧ (∀ x ∈ more, x ∈ ns) ∧ ns.length ≤ more.length + 2 * ls.length

set_option maxRecDepth 100000 in
set_option maxHeartbeats 2000000 in
theorem newGraph_any (A : Option Addr) (c : Nat) (ls : List Link) (b o mc : Nat) (more : List Ident) (w : World) (hl : SliceIs w w.heap.size Link.cells 10 A ls) (hv : validLinks ls = true)
    (hm : SliceIs w w.heap.size Ident.cells 4 (some ⟨b, o, none⟩) more) (hmn : more.length ≤ 1000) (hm0 : 0 < more.length) (hmv : AllValid more) :
    Calls Try.prog 36 #[.slice A ls.length c, .slice (some ⟨b, o, none⟩) more.length mc] w fun e w' =>
      (∃ v, e = .returned v ∧ GraphIs w' ls more v) ∧ Below w.heap.size w w' := by
  obtain ⟨i0, hi0, hz0, hz1, hz2⟩ := info_parts infoIdent
  obtain ⟨i1, hi1, hy0, hy1, hy2⟩ := info_parts infoEdge
  have hn := validLinks_len hv
  have HV := Lib.hid hv
  have HMV := Lib.hid hmv
  clear hv hmv
  have HL := Lib.hid hl
  have HM := Lib.hid hm
  clear hl hm
  go_enter Try.func36, Try.ntmps36
  go_wp2_with ((go_at_call 66; (with_reducible refine (clone_any b o mc more _ ?_ (by omega)).mono ?_); (exact HM.out.next (by repeat (first | with_reducible exact Below.refl _ _ | with_reducible assumption | (with_reducible refine Below.setCell ?_ ?_ _; rotate_left; focus (first | exact Nat.le_refl _ | exact Nat.le_add_right _ _ | (simp; done) | (simp; omega) | omega)) | (with_reducible refine Below.alloc ?_ ?_ _; rotate_left; focus (first | exact Nat.le_refl _ | exact Nat.le_add_right _ _ | (simp; done) | (simp; omega) | omega)) | with_reducible refine Below.drew ?_ | with_reducible refine below_drewN ?_ _ | (with_reducible refine below_nextN ?_ (by with_reducible assumption) ?_; rotate_left; focus (first | exact Nat.le_refl _ | exact Nat.le_add_right _ _ | (simp; done) | (simp; omega) | omega))))); rintro e w1 ⟨⟨v1, rfl, hown⟩, hb1⟩; have HOWN := Lib.hid hown; clear hown))
  have hb1' : Below w.heap.size w w1 := below_nextN (by repeat (first | with_reducible exact Below.refl _ _ | with_reducible assumption | (with_reducible refine Below.setCell ?_ ?_ _; rotate_left; focus (first | exact Nat.le_refl _ | exact Nat.le_add_right _ _ | (simp; done) | (simp; omega) | omega)) | (with_reducible refine Below.alloc ?_ ?_ _; rotate_left; focus (first | exact Nat.le_refl _ | exact Nat.le_add_right _ _ | (simp; done) | (simp; omega) | omega)) | with_reducible refine Below.drew ?_ | with_reducible refine below_drewN ?_ _ | (with_reducible refine below_nextN ?_ (by with_reducible assumption) ?_; rotate_left; focus (first | exact Nat.le_refl _ | exact Nat.le_add_right _ _ | (simp; done) | (simp; omega) | omega)))) hb1 (by first | exact Nat.le_refl _ | exact Nat.le_add_right _ _ | assumption | (simp; done) | (simp; omega) | omega)
  have hbx : Blk w1 w.heap.size 62 #[.slice none 0 0, .slice none 0 0] := (Blk.new _ _ _).below hb1 (by simp)
  have HBX := Lib.hid hbx
  clear hbx
  have hsz1 : w.heap.size < w1.heap.size := by have := hb1.size; simp at this; omega
  go_loopw [5, 22] (fun vo vi wr => ∃ m : Nat, m ≤ ls.length ∧ vi = .int .i64 m ∧ Owns wr (w.heap.size + 1) 27 Ident.cells 4 vo (more ++ endsOf (ls.take m)) ∧ Below w.heap.size w wr ∧ Blk wr w.heap.size 62 #[.slice none 0 0, .slice none 0 0] ∧ w.heap.size < wr.heap.size) (fun _ vi _ => ls.length - (intOf vi).toNat)
  case atStart => exact ⟨0, Nat.zero_le _, rfl, by simpa [endsOf] using HOWN.out, hb1', HBX.out, hsz1⟩
  case round =>
    obtain ⟨m, hm, rfl, hown, hbw, hbx, hsz⟩ := hrel
    have HOWN := Lib.hid hown
    have HBX := Lib.hid hbx
    have hrow := hown.row
    clear hown hbx
    by_cases hlt : m < ls.length
    · obtain ⟨b, o, rfl, hb, hc⟩ := (HL.out.below hbw).get hlt
      obtain ⟨⟨h0, h1, h2, h3⟩, ⟨h4, h5, h6, h7⟩, h8, h9⟩ := Link.cells10 hc
      clear hc
      have hstep := endsOf_succ ls m hlt
      have HST := Lib.hid hstep
      have hel := endsOf_len (ls.take m)
      rw [List.length_take_of_le hm] at hel
      clear hstep
      go_wp2_with ((at_builtin; go_must (refine wpList_append_list _ rfl (.tmp 26) (.tmp 31) 31 rfl 27 i0 _ Ident.cells 4 48 Try.underlying31 hi0 hz0 hz1 hz2 rfl (by omega) ident_len ident_one (w.heap.size + 1) u5 (more ++ endsOf (ls.take m)) rfl ((HOWN.out.alloc _).alloc _) _ _ _ [ls[m].a, ls[m].b] rfl rfl (ident_two (Blk.new' (by simp)) (by simp)) (by simp; omega) (by simp [maxLen]; omega) (by simp; omega) ?_); intro v' w2 hown' hg' hat'; have HOWN' := Lib.hid hown'; clear hown'; have hbel : Below w.heap.size w w2 := Below.grown (by repeat (first | with_reducible exact Below.refl _ _ | with_reducible assumption | (with_reducible refine Below.setCell ?_ ?_ _; rotate_left; focus (first | exact Nat.le_refl _ | exact Nat.le_add_right _ _ | (simp; done) | (simp; omega) | omega)) | (with_reducible refine Below.alloc ?_ ?_ _; rotate_left; focus (first | exact Nat.le_refl _ | exact Nat.le_add_right _ _ | (simp; done) | (simp; omega) | omega)) | with_reducible refine Below.drew ?_ | with_reducible refine below_drewN ?_ _ | (with_reducible refine below_nextN ?_ (by with_reducible assumption) ?_; rotate_left; focus (first | exact Nat.le_refl _ | exact Nat.le_add_right _ _ | (simp; done) | (simp; omega) | omega)))) hg' (by simp; omega) (fun q e => by have := hrow q e; omega); have hbx2 : Blk w2 w.heap.size 62 #[.slice none 0 0, .slice none 0 0] := Blk.grown ((HBX.out.alloc _).alloc _) hg' (fun e => by have := hrow _ e.symm; omega); have HBX2 := Lib.hid hbx2; clear hbx2))
      go_roundw
      case rel => exact ⟨m + 1, by omega, by go_num, by rw [HST.out, ← List.append_assoc]; exact HOWN'.out, hbel, HBX2.out, HBX2.out.lt⟩
      case measure => simp [intOf]; omega
    · obtain rfl : m = ls.length := by omega
      obtain ⟨L, hL⟩ : ∃ L, L = more ++ endsOf ls := ⟨_, rfl⟩
      have hown : Owns wr (w.heap.size + 1) 27 Ident.cells 4 u5 L := by rw [hL]; simpa using HOWN.out
      have hLlen : L.length = more.length + 2 * ls.length := by rw [hL, List.length_append, endsOf_len]
      obtain ⟨g, cap, rfl, hgb⟩ := hown.some_of_pos (by omega)
      have HOWN1 := Lib.hid hown
      have HLD := Lib.hid hL
      have HLL := Lib.hid hLlen
      have hLn : L.length ≤ 1000000 := by omega
      clear hown hL hLlen
      obtain ⟨ip, hip, hp0, hp1, hp2⟩ := info_parts infoPair
      have hmk : ∀ u : World, (Instr.makeSlice 90 (.int .i64 (ls.length : Int)) (.int .i64 (ls.length : Int))).run Try.prog u = .ok (.slice (some ⟨u.heap.size, 0, none⟩) ls.length ls.length) (u.alloc (.cells (madeCells #[.int .i64 0, .int .i64 0] (ls.length * 2)) 91)) := fun u => by
        have h := run_make_rowN (P := Try.prog) 90 91 ip (.agg #[.int .i64 0, .int .i64 0]) Try.underlying90 hip hp0 .i64 .i64 ls.length ls.length (Nat.le_refl _) (by rw [hp2]; omega) (by omega) u
        simpa [hp1, Value.cells] using h
      clear hip hp0 hp1 hp2
      obtain ⟨n0, hn0⟩ : ∃ n0, L.length = n0 := ⟨_, rfl⟩
      rw [hn0] at hLn
      have HN0 := Lib.hid hn0
      rw [hn0] at HOWN1 ⊢
      clear hn0 HOWN
      go_wp2_with (first
        | (go_at_call 67; go_must (with_reducible refine (sort_anyN (w.heap.size + 1) g cap n0 L _ HN0.out HOWN1.out hLn).mono ?_); rintro e w2 ⟨rfl, L2, hp2, hw2, hown2, hg2⟩; have HP2 := Lib.hid hp2; have HW2 := Lib.hid hw2; have HOWN2 := Lib.hid hown2; clear hp2 hw2 hown2)
        | (go_at_call 68; go_must (with_reducible refine (compact_anyN (w.heap.size + 1) g cap n0 L2 _ (HP2.out.length_eq.trans HN0.out) HOWN2.out hLn).mono ?_); rintro e w3 ⟨⟨A3, c3, ns, hns, rfl, hc3, hs3, ha3⟩, hg3⟩; have HA3 := Lib.hid ha3; clear ha3; have HS3 := Lib.hid hs3; have HNS := Lib.hid hns; clear hs3 hns))
      have hx2 : Below w.heap.size w w2 := Below.grown hbw hg2 hbw.size (fun q e => by injection e with e; omega)
      have hx3 : Below w.heap.size w w3 := Below.grown hx2 hg3 hx2.size (fun q e => by injection e with e; omega)
      have hz3 : w.heap.size < w3.heap.size := by have := hg2.size; have := hg3.size; omega
      have hbx3 : Blk w3 w.heap.size 62 #[.slice none 0 0, .slice none 0 0] := (HBX.out.grown hg2 (fun e => by injection e with e; omega)).grown hg3 (fun e => by injection e with e; omega)
      have HBX3 := Lib.hid hbx3
      clear hbx3 HBX
      have hmem : ∀ x, x ∈ ns ↔ x ∈ more ∨ x ∈ endsOf ls := by
        have hLv : AllValid L := by
          intro x hx
          rw [HLD.out] at hx
          rcases List.mem_append.1 hx with hx | hx
          · exact HMV.out x hx
          · obtain ⟨y, hy, hx⟩ := List.mem_flatMap.1 hx
            have := validLinks_mem HV.out y hy
            rcases List.mem_cons.1 hx with rfl | hx
            · exact this.2.2.1
            · rcases List.mem_cons.1 hx with rfl | hx
              · exact this.2.2.2.1
              · cases hx
        have hL2v : AllValid L2 := fun x hx => hLv x (HP2.out.mem_iff.1 hx)
        intro x
        rw [HNS.out, dedup_mem HW2.out hL2v, HP2.out.mem_iff, HLD.out, List.mem_append]
      have hnames : Names ns ls := by
        have hLv : AllValid L2 := by
          intro x hx
          have hx := HP2.out.mem_iff.1 hx
          rw [HLD.out] at hx
          rcases List.mem_append.1 hx with hx | hx
          · exact HMV.out x hx
          · obtain ⟨y, hy, hx⟩ := List.mem_flatMap.1 hx
            have := validLinks_mem HV.out y hy
            rcases List.mem_cons.1 hx with rfl | hx
            · exact this.2.2.1
            · rcases List.mem_cons.1 hx with rfl | hx
              · exact this.2.2.2.1
              · cases hx
        refine ⟨by rw [HNS.out]; exact dedup_asc HW2.out hLv, fun x hx => hLv x (by rw [HNS.out, dedup_mem HW2.out hLv] at hx; exact hx), fun x hx => ⟨(hmem _).2 (.inr ?_), (hmem _).2 (.inr ?_)⟩⟩
        · exact List.mem_flatMap.2 ⟨x, hx, by simp⟩
        · exact List.mem_flatMap.2 ⟨x, hx, by simp⟩
      have HMEM := Lib.hid hmem
      have HNA := Lib.hid hnames
      have hnl : ns.length ≤ more.length + 2 * ls.length := by
        rw [← HLL.out, ← HP2.out.length_eq, HNS.out]
        exact ddTo_len _
      clear hmem hnames
      go_loopw [45] (fun vi wp => ∃ m : Nat, m ≤ ls.length ∧ vi = .int .i64 m ∧ PairBlk wp (w3.heap.size + 1) (pairRow ns ls m) ∧ Below w3.heap.size w3 wp ∧ Blk wp w3.heap.size 62 #[.slice A3 ns.length c3, .slice none 0 0]) (fun vi _ => ls.length - (intOf vi).toNat)
      case atStart => exact ⟨0, Nat.zero_le _, rfl, pairBlk_made ns ls (by simp), by repeat (first | with_reducible exact Below.refl _ _ | with_reducible assumption | (with_reducible refine Below.setCell ?_ ?_ _; rotate_left; focus (first | exact Nat.le_refl _ | exact Nat.le_add_right _ _ | (simp; done) | (simp; omega) | omega)) | (with_reducible refine Below.alloc ?_ ?_ _; rotate_left; focus (first | exact Nat.le_refl _ | exact Nat.le_add_right _ _ | (simp; done) | (simp; omega) | omega)) | with_reducible refine Below.drew ?_ | with_reducible refine below_drewN ?_ _ | (with_reducible refine below_nextN ?_ (by with_reducible assumption) ?_; rotate_left; focus (first | exact Nat.le_refl _ | exact Nat.le_add_right _ _ | (simp; done) | (simp; omega) | omega))), (Blk.new _ _ _).alloc _⟩
      case round =>
        obtain ⟨m, hm, rfl, hPB, hbp, hbox⟩ := hrel
        by_cases hlt : m < ls.length
        · obtain ⟨b', o', rfl, hb', hc⟩ := ((HL.out.below hx3).below (hbp.mono (by omega))).get hlt
          obtain ⟨⟨h0, h1, h2, h3⟩, ⟨h4, h5, h6, h7⟩, h8, h9⟩ := Link.cells10 hc
          clear hc
          have HPB := Lib.hid hPB
          have HBO := Lib.hid hbox
          clear hPB hbox
          go_wp2
          obtain ⟨W, hW⟩ : ∃ W : World, W = wr.alloc (.cells #[.string ls[m].a.ns, .int .i64 ls[m].a.val.kind, .int .i64 ls[m].a.val.num, .string ls[m].a.val.text, .string ls[m].b.ns, .int .i64 ls[m].b.val.kind, .int .i64 ls[m].b.val.num, .string ls[m].b.val.text, .int .i64 ls[m].seq, .bool ls[m].rev] 29) := ⟨_, rfl⟩
          have hbW : Below w3.heap.size w3 W := by rw [hW]; exact hbp.alloc hbp.size _
          have hPW : PairBlk W (w3.heap.size + 1) (pairRow ns ls m) := by rw [hW]; exact Blk.alloc HPB.out _
          have hBW : Blk W w3.heap.size 62 #[.slice A3 ns.length c3, .slice none 0 0] := by rw [hW]; exact Blk.alloc HBO.out _
          have hXW : Blk W wr.heap.size 29 #[.string ls[m].a.ns, .int .i64 ls[m].a.val.kind, .int .i64 ls[m].a.val.num, .string ls[m].a.val.text, .string ls[m].b.ns, .int .i64 ls[m].b.val.kind, .int .i64 ls[m].b.val.num, .string ls[m].b.val.text, .int .i64 ls[m].seq, .bool ls[m].rev] := by rw [hW]; exact Blk.new _ _ _
          have hsW : SliceIs W W.heap.size Ident.cells 4 A3 ns := HS3.out.next hbW
          rw [← hW]
          clear hW h0 h1 h2 h3 h4 h5 h6 h7 h8 h9
          have x0 := hXW.cell 0
          have x1 := hXW.cell 1
          have x2 := hXW.cell 2
          have x3 := hXW.cell 3
          have x4 := hXW.cell 4
          have x5 := hXW.cell 5
          have x6 := hXW.cell 6
          have x7 := hXW.cell 7
          have y0 := hBW.cell 0
          have y1 := hBW.cell 1
          simp only [List.getElem?_toArray, List.getElem?_cons_zero, List.getElem?_cons_succ] at x0 x1 x2 x3 x4 x5 x6 x7 y0 y1
          have hk0 := keepQ (w := W) wr.heap.size hXW.lt
          have hk1 := keepQ (w := W) w3.heap.size hBW.lt
          have HPW := Lib.hid hPW
          have HBW := Lib.hid hBW
          have HSW := Lib.hid hsW
          clear hPW hBW hsW hXW
          refine wp_region_bel (by kernel_rfl) (by kernel_rfl) ?_; (repeat (go_big_quiet_step ((first | (go_at_call 57; with_reducible exact bel_of (graph_index A3 c3 ns (.slice none 0 0) ls[m].a _ ⟨_, _, _, rfl⟩ (HSW.out.next (BelOf.h _)) (by omega) HNA.out.asc)) | (go_at_call 57; with_reducible exact bel_of (graph_index A3 c3 ns (.slice none 0 0) ls[m].b _ ⟨_, _, _, rfl⟩ (HSW.out.next (BelOf.h _)) (by omega) HNA.out.asc)))))); refine wpQuiet_nil ?_; intro wq hq
          clear hk0 hk1 x0 x1 x2 x3 x4 x5 x6 x7 y0 y1
          have hPq : PairBlk wq (w3.heap.size + 1) (pairRow ns ls m) := Blk.below HPW.out hq HPW.out.lt
          have hBq : Blk wq w3.heap.size 62 #[.slice A3 ns.length c3, .slice none 0 0] := Blk.below HBW.out hq HBW.out.lt
          have hbq : Below w3.heap.size w3 wq := below_nextN hbW hq hbW.size
          obtain ⟨cp0, hcp0⟩ : ∃ v, wq.cell? ⟨w3.heap.size + 1, m * 2, none⟩ = some v := ⟨_, (hPq.cell2 (i := m) (by rw [pairRow_len ns ls m hm]; exact hlt)).1⟩
          obtain ⟨cp1, hcp1⟩ : ∃ v, wq.cell? ⟨w3.heap.size + 1, m * 2 + 1, none⟩ = some v := ⟨_, (hPq.cell2 (i := m) (by rw [pairRow_len ns ls m hm]; exact hlt)).2⟩
          have hfp := Blk.frozen hPq (m * 2)
          have hfq := Blk.frozen hPq (m * 2 + 1)
          have HPQ := Lib.hid hPq
          have HBQ := Lib.hid hBq
          clear hPq hBq
          go_wp2
          go_roundw
          case rel => exact ⟨m + 1, by omega, by go_num, by
            have h := HPQ.out.set2 (i := m) (by rw [pairRow_len ns ls m hm]; exact hlt) (pairOf ns ls[m])
            rw [pairRow_set ns ls m hlt] at h
            have e1 : (((pairOf ns ls[m]).1 : Nat) : Int) = min (insK ns ls[m].a : Int) (insK ns ls[m].b : Int) := by unfold pairOf; omega
            have e2 : (((pairOf ns ls[m]).2 : Nat) : Int) = max (insK ns ls[m].a : Int) (insK ns ls[m].b : Int) := by unfold pairOf; omega
            rw [e1, e2] at h
            exact h, by repeat (first | with_reducible exact Below.refl _ _ | with_reducible assumption | (with_reducible refine Below.setCell ?_ ?_ _; rotate_left; focus (first | exact Nat.le_refl _ | exact Nat.le_add_right _ _ | (simp; done) | (simp; omega) | omega)) | (with_reducible refine Below.alloc ?_ ?_ _; rotate_left; focus (first | exact Nat.le_refl _ | exact Nat.le_add_right _ _ | (simp; done) | (simp; omega) | omega)) | with_reducible refine Below.drew ?_ | with_reducible refine below_drewN ?_ _ | (with_reducible refine below_nextN ?_ (by with_reducible assumption) ?_; rotate_left; focus (first | exact Nat.le_refl _ | exact Nat.le_add_right _ _ | (simp; done) | (simp; omega) | omega))), (HBQ.out.far (by simp) _).far (by simp) _⟩
          case measure => simp [intOf]; omega
        · obtain rfl : m = ls.length := by omega
          rw [pairRow_all] at hPB
          obtain ⟨wm, rfl⟩ : ∃ wm : World, wm = wr := ⟨_, rfl⟩
          have HPB := Lib.hid hPB
          have HBO := Lib.hid hbox
          clear hPB hbox
          go_wp2
          go_loopw [71] (fun vi wp => ∃ (m : Nat) (es : List Edge) (vE : Value), m ≤ ls.length ∧ vi = .int .i64 m ∧ es ++ edgesOf ns (ls.drop m) = edgesOf ns ls ∧ es.length ≤ m ∧ Owns wp (w3.heap.size + 2) 93 Edge.cells 4 vE es ∧ PairBlk wp (w3.heap.size + 1) (ls.map (pairOf ns)) ∧ Below w3.heap.size w3 wp ∧ Blk wp w3.heap.size 62 #[.slice A3 ns.length c3, vE]) (fun vi _ => ls.length - (intOf vi).toNat)
          case atStart => exact ⟨0, [], _, Nat.zero_le _, rfl, by simp, by simp, Owns.nil, HPB.out, hbp, HBO.out⟩
          case round =>
            obtain ⟨m, es, vE, hm, rfl, hes, hel, hown, hPB, hbp3, hbox⟩ := hrel
            have HOWN3 := Lib.hid hown
            have HPB3 := Lib.hid hPB
            have HBO3 := Lib.hid hbox
            have HES := Lib.hid hes
            have hrow3 := hown.row
            have hz5 : w3.heap.size + 1 < wr.heap.size := hPB.lt
            clear hown hPB hbox hes
            by_cases hlt : m < ls.length
            · obtain ⟨b', o', rfl, hb', hc⟩ := ((HL.out.below hx3).below (hbp3.mono (by omega))).get hlt
              obtain ⟨⟨h0, h1, h2, h3⟩, ⟨h4, h5, h6, h7⟩, h8, h9⟩ := Link.cells10 hc
              clear hc
              cases hr : ls[m].rev
              · rw [hr] at h9
                have HR := Lib.hid hr
                clear hr
                go_wp2
                obtain ⟨W, hW⟩ : ∃ W : World, W = wr.alloc (.cells #[.string ls[m].a.ns, .int .i64 ls[m].a.val.kind, .int .i64 ls[m].a.val.num, .string ls[m].a.val.text, .string ls[m].b.ns, .int .i64 ls[m].b.val.kind, .int .i64 ls[m].b.val.num, .string ls[m].b.val.text, .int .i64 ls[m].seq, .bool false] 29) := ⟨_, rfl⟩
                have hbW : Below w3.heap.size w3 W := by rw [hW]; exact hbp3.alloc hbp3.size _
                have hPW : PairBlk W (w3.heap.size + 1) (ls.map (pairOf ns)) := by rw [hW]; exact Blk.alloc HPB3.out _
                have hBW : Blk W w3.heap.size 62 #[.slice A3 ns.length c3, vE] := by rw [hW]; exact Blk.alloc HBO3.out _
                have hOW : Owns W (w3.heap.size + 2) 93 Edge.cells 4 vE es := by rw [hW]; exact HOWN3.out.alloc _
                have x8 : W.cell? ⟨wr.heap.size, 8, none⟩ = some (.int .i64 ls[m].seq) := by rw [hW]; exact (Blk.new _ _ _).cell 8
                have hzW : wr.heap.size < W.heap.size := by rw [hW]; simp
                rw [← hW]
                clear hW h0 h1 h2 h3 h4 h5 h6 h7 h8 h9
                have hcp := hPW.cell2 (i := m) (by simpa using hlt)
                obtain ⟨hcp0, hcp1⟩ := hcp
                simp only [List.getElem_map] at hcp0 hcp1
                have hzp : w3.heap.size + 1 < W.heap.size := hPW.lt
                have HPW := Lib.hid hPW
                have HBW := Lib.hid hBW
                have HOW := Lib.hid hOW
                clear hPW hBW hOW
                go_region
                go_wp2
                obtain ⟨V, hV⟩ : ∃ V : World, V = (W.alloc (.cells #[.int .i64 (pairOf ns ls[m]).1, .int .i64 (pairOf ns ls[m]).2, .int .i64 ls[m].seq, .int .i64 9223372036854775807] 93)).drew := ⟨_, rfl⟩
                have hbV : Below w3.heap.size w3 V := by rw [hV]; exact (hbW.alloc hbW.size _).drew
                have hPV : PairBlk V (w3.heap.size + 1) (ls.map (pairOf ns)) := by rw [hV]; exact Blk.alloc HPW.out _
                have hBV : Blk V w3.heap.size 62 #[.slice A3 ns.length c3, vE] := by rw [hV]; exact Blk.alloc HBW.out _
                have hOV : Owns V (w3.heap.size + 2) 93 Edge.cells 4 vE es := by rw [hV]; exact HOW.out.alloc _
                have hEV : Blk V W.heap.size 93 #[.int .i64 (pairOf ns ls[m]).1, .int .i64 (pairOf ns ls[m]).2, .int .i64 ls[m].seq, .int .i64 9223372036854775807] := by rw [hV]; exact Blk.drew (Blk.new _ _ _)
                rw [← hV]
                clear hV x8
                have hk0 := keepQ (w := V) (w3.heap.size + 1) hPV.lt
                have hcp := hPV.cell2 (i := m) (by simpa using hlt)
                clear hcp0 hcp1
                obtain ⟨hcp0, hcp1⟩ := hcp
                simp only [List.getElem_map] at hcp0 hcp1
                have HPV := Lib.hid hPV
                have HBV := Lib.hid hBV
                have HOV := Lib.hid hOV
                have HEV := Lib.hid hEV
                clear hPV hBV hOV hEV
                obtain ⟨r, hri⟩ : ∃ r : Int, pairIdx ((ls.map (pairOf ns)).drop (m + 1)) (pairOf ns ls[m]) = r := ⟨_, rfl⟩
                have HRI := Lib.hid hri
                clear hri
                refine wp_region_bel (by kernel_rfl) (by kernel_rfl) ?_; (repeat (go_big_quiet_step ((go_at_call 70; go_must (exact bel_of (index_anyR (if ls.length = m + 1 then some ⟨w3.heap.size + 1, 0, none⟩ else some ⟨w3.heap.size + 1, (m + 1) * 2, none⟩) (ls.length - (m + 1)) (ls.length - (m + 1)) ((ls.map (pairOf ns)).drop (m + 1)) (pairOf ns ls[m]) _ ((HPV.out.rest (n := ls.length) HPV.out.lt (m + 1) (by simp)).next (BelOf.h _)) (by omega) (by simp) HRI.out)))))); refine wpQuiet_nil ?_; intro wq hq
                clear hk0 hcp0 hcp1
                by_cases hr0 : 0 ≤ r
                · obtain ⟨n, rfl⟩ : ∃ n : Nat, r = n := ⟨r.toNat, by omega⟩
                  obtain ⟨hn', hend⟩ := endOf_some hlt HRI.out
                  have hbq : Below w3.heap.size w3 wq := below_nextN hbV hq hbV.size
                  obtain ⟨b2, o2, e2, hb2, hc2⟩ := ((HL.out.below hx3).below (hbq.mono (by omega))).get hn'
                  injection e2 with e2
                  injection e2 with e3 e4
                  subst e3 e4
                  obtain ⟨_, _, s8, _⟩ := Link.cells10 hc2
                  have hsq := validLinks_mem HV.out ls[m + 1 + n] (List.getElem_mem hn')
                  obtain ⟨hsq1, hsq2, _, _, _⟩ := hsq
                  have hEq := Blk.below HEV.out hq HEV.out.lt
                  have ce := hEq.cell 3
                  simp only [List.getElem?_toArray, List.getElem?_cons_zero, List.getElem?_cons_succ] at ce
                  have cf := Blk.frozen hEq 3
                  have HEQ := Lib.hid hEq
                  have HEND := Lib.hid hend
                  have e0 := HEQ.out.cell 0
                  have e1 := HEQ.out.cell 1
                  have e2 := HEQ.out.cell 2
                  have hBq := Blk.below HBV.out hq HBV.out.lt
                  have y1 := hBq.cell 1
                  simp only [List.getElem?_toArray, List.getElem?_cons_zero, List.getElem?_cons_succ] at e0 e1 e2 y1
                  have hzWw : w3.heap.size < W.heap.size := by omega
                  have hne1 : ¬ W.heap.size = w3.heap.size := by omega
                  have hne2 : ¬ w3.heap.size = W.heap.size := by omega
                  have HBU : Hid (Blk (wq.setCell ⟨W.heap.size, 3, none⟩ (.int .i64 (ls[m + 1 + n].seq - 1))) w3.heap.size 62 #[.slice A3 ns.length c3, vE]) := hBq.far (by simp; omega) _
                  have HOU : Hid (Owns (wq.setCell ⟨W.heap.size, 3, none⟩ (.int .i64 (ls[m + 1 + n].seq - 1))) (w3.heap.size + 2) 93 Edge.cells 4 vE es) := (HOV.out.below hq (Nat.le_refl _)).far (fun g e => by have := HOW.out.lt g e; simp; omega) _
                  have HPU : Hid (PairBlk (wq.setCell ⟨W.heap.size, 3, none⟩ (.int .i64 (ls[m + 1 + n].seq - 1))) (w3.heap.size + 1) (ls.map (pairOf ns))) := Blk.far (Blk.below HPV.out hq HPV.out.lt) (by simp; omega) _
                  have hzq := hbq.size
                  have hzq2 := Blk.lt HPU.out
                  simp only [World.size_setCell] at hzq2
                  clear hc2 hEq hend hBq
                  go_wp2_with (at_builtin; go_must (refine wpList_append_list _ rfl (.tmp 113) (.tmp 115) 60 rfl 93 i1 _ Edge.cells 4 32 Try.underlying60 hi1 hy0 hy1 hy2 rfl (by omega) edge_len edge_one (w3.heap.size + 2) vE es rfl (HOU.out.alloc _) _ _ _ [⟨(pairOf ns ls[m]).1, (pairOf ns ls[m]).2, ls[m].seq, (ls[m + 1 + n].seq - 1)⟩] rfl rfl (Blk.one (enc := Edge.cells) (x := ⟨(pairOf ns ls[m]).1, (pairOf ns ls[m]).2, ls[m].seq, (ls[m + 1 + n].seq - 1)⟩) (Blk.new' (by simp)) (by simp)) (by simp; omega) (by simp [maxLen]; omega) (by simp; omega) ?_); intro v' w5 hown' hg' hat'; obtain ⟨A5, c5, rfl, hc5, _⟩ := hown'.form; have HOWN' := Lib.hid hown'; clear hown'; have hbel : Below w3.heap.size w3 w5 := Below.grown (by repeat (first | with_reducible exact Below.refl _ _ | with_reducible assumption | (with_reducible refine Below.setCell ?_ ?_ _; rotate_left; focus (first | exact Nat.le_refl _ | exact Nat.le_add_right _ _ | (simp; done) | (simp; omega) | omega)) | (with_reducible refine Below.alloc ?_ ?_ _; rotate_left; focus (first | exact Nat.le_refl _ | exact Nat.le_add_right _ _ | (simp; done) | (simp; omega) | omega)) | with_reducible refine Below.drew ?_ | with_reducible refine below_drewN ?_ _ | (with_reducible refine below_nextN ?_ (by with_reducible assumption) ?_; rotate_left; focus (first | exact Nat.le_refl _ | exact Nat.le_add_right _ _ | (simp; done) | (simp; omega) | omega)))) hg' (by simp; omega) (fun q e => by have := hrow3 q e; omega); have hbx5 : Blk w5 w3.heap.size 62 #[.slice A3 ns.length c3, vE] := Blk.grown (HBU.out.alloc _) hg' (fun e => by have := hrow3 _ e.symm; omega); have hpx5 : PairBlk w5 (w3.heap.size + 1) (ls.map (pairOf ns)) := Blk.grown (Blk.alloc HPU.out _) hg' (fun e => by have := hrow3 _ e.symm; omega); have cb5 := hbx5.cell 1; have fb5 := hbx5.frozen 1; simp only [List.getElem?_toArray, List.getElem?_cons_zero, List.getElem?_cons_succ] at cb5; have HBX5 := Lib.hid hbx5; have HPX5 := Lib.hid hpx5; clear hbx5 hpx5)
                  go_roundw
                  case rel => exact ⟨m + 1, _, _, by omega, by go_num, by rw [← HES.out, edgesOf_not hlt HR.out, edgeOf, HEND.out]; simp, by simp; omega, HOWN'.out.far (fun g e => by have := HOWN'.out.row g e; simp; omega) _, Blk.far HPX5.out (by simp) _, hbel.setCell (by simp) _, by simpa using HBX5.out.set_ 1 _⟩
                  case measure => simp [intOf]; omega
                · have hend := endOf_none hlt (by rw [HRI.out]; omega)
                  have hbq : Below w3.heap.size w3 wq := below_nextN hbV hq hbV.size
                  have HEND := Lib.hid hend
                  have hEq := Blk.below HEV.out hq HEV.out.lt
                  have hBq := Blk.below HBV.out hq HBV.out.lt
                  have e0 := hEq.cell 0
                  have e1 := hEq.cell 1
                  have e2 := hEq.cell 2
                  have e3 := hEq.cell 3
                  have y1 := hBq.cell 1
                  simp only [List.getElem?_toArray, List.getElem?_cons_zero, List.getElem?_cons_succ] at e0 e1 e2 e3 y1
                  have HBU := Lib.hid hBq
                  have HOU := Lib.hid (HOV.out.below hq (Nat.le_refl _))
                  have HPU : Hid (PairBlk wq (w3.heap.size + 1) (ls.map (pairOf ns))) := Blk.below HPV.out hq HPV.out.lt
                  have hzq := hbq.size
                  have hzq2 := Blk.lt HPU.out
                  clear hEq hBq hend
                  go_wp2_with (at_builtin; go_must (refine wpList_append_list _ rfl (.tmp 113) (.tmp 115) 60 rfl 93 i1 _ Edge.cells 4 32 Try.underlying60 hi1 hy0 hy1 hy2 rfl (by omega) edge_len edge_one (w3.heap.size + 2) vE es rfl (HOU.out.alloc _) _ _ _ [⟨(pairOf ns ls[m]).1, (pairOf ns ls[m]).2, ls[m].seq, 9223372036854775807⟩] rfl rfl (Blk.one (enc := Edge.cells) (x := ⟨(pairOf ns ls[m]).1, (pairOf ns ls[m]).2, ls[m].seq, 9223372036854775807⟩) (Blk.new' (by simp)) (by simp)) (by simp; omega) (by simp [maxLen]; omega) (by simp; omega) ?_); intro v' w5 hown' hg' hat'; obtain ⟨A5, c5, rfl, hc5, _⟩ := hown'.form; have HOWN' := Lib.hid hown'; clear hown'; have hbel : Below w3.heap.size w3 w5 := Below.grown (by repeat (first | with_reducible exact Below.refl _ _ | with_reducible assumption | (with_reducible refine Below.setCell ?_ ?_ _; rotate_left; focus (first | exact Nat.le_refl _ | exact Nat.le_add_right _ _ | (simp; done) | (simp; omega) | omega)) | (with_reducible refine Below.alloc ?_ ?_ _; rotate_left; focus (first | exact Nat.le_refl _ | exact Nat.le_add_right _ _ | (simp; done) | (simp; omega) | omega)) | with_reducible refine Below.drew ?_ | with_reducible refine below_drewN ?_ _ | (with_reducible refine below_nextN ?_ (by with_reducible assumption) ?_; rotate_left; focus (first | exact Nat.le_refl _ | exact Nat.le_add_right _ _ | (simp; done) | (simp; omega) | omega)))) hg' (by simp; omega) (fun q e => by have := hrow3 q e; omega); have hbx5 : Blk w5 w3.heap.size 62 #[.slice A3 ns.length c3, vE] := Blk.grown (HBU.out.alloc _) hg' (fun e => by have := hrow3 _ e.symm; omega); have hpx5 : PairBlk w5 (w3.heap.size + 1) (ls.map (pairOf ns)) := Blk.grown (Blk.alloc HPU.out _) hg' (fun e => by have := hrow3 _ e.symm; omega); have cb5 := hbx5.cell 1; have fb5 := hbx5.frozen 1; simp only [List.getElem?_toArray, List.getElem?_cons_zero, List.getElem?_cons_succ] at cb5; have HBX5 := Lib.hid hbx5; have HPX5 := Lib.hid hpx5; clear hbx5 hpx5)
                  go_roundw
                  case rel => exact ⟨m + 1, _, _, by omega, by go_num, by rw [← HES.out, edgesOf_not hlt HR.out, edgeOf, HEND.out]; simp, by simp; omega, HOWN'.out.far (fun g e => by have := HOWN'.out.row g e; simp; omega) _, Blk.far HPX5.out (by simp) _, hbel.setCell (by simp) _, by simpa using HBX5.out.set_ 1 _⟩
                  case measure => simp [intOf]; omega
              · rw [hr] at h9
                have HR := Lib.hid hr
                clear hr
                go_wp2
                go_roundw
                case rel => exact ⟨m + 1, es, vE, by omega, by go_num, by rw [← HES.out, edgesOf_rev hlt HR.out], by omega, HOWN3.out.alloc _, Blk.alloc HPB3.out _, by repeat (first | with_reducible exact Below.refl _ _ | with_reducible assumption | (with_reducible refine Below.setCell ?_ ?_ _; rotate_left; focus (first | exact Nat.le_refl _ | exact Nat.le_add_right _ _ | (simp; done) | (simp; omega) | omega)) | (with_reducible refine Below.alloc ?_ ?_ _; rotate_left; focus (first | exact Nat.le_refl _ | exact Nat.le_add_right _ _ | (simp; done) | (simp; omega) | omega)) | with_reducible refine Below.drew ?_ | with_reducible refine below_drewN ?_ _ | (with_reducible refine below_nextN ?_ (by with_reducible assumption) ?_; rotate_left; focus (first | exact Nat.le_refl _ | exact Nat.le_add_right _ _ | (simp; done) | (simp; omega) | omega))), HBO3.out.alloc _⟩
                case measure => simp [intOf]; omega
            · obtain rfl : m = ls.length := by omega
              have hesE : es = edgesOf ns ls := by have := HES.out; simpa [edgesOf] using this
              subst hesE
              obtain ⟨EA, ec, rfl, _, hsE, hEA⟩ := HOWN3.out.slice edge_len
              have y0 := HBO3.out.cell 0
              have y1 := HBO3.out.cell 1
              simp only [List.getElem?_toArray, List.getElem?_cons_zero, List.getElem?_cons_succ] at y0 y1
              have hr4 : Blk wr w.heap.size 62 #[.slice none 0 0, .slice none 0 0] := HBX3.out.below hbp3 hz3
              have z0 := hr4.cell 0
              have z1 := hr4.cell 1
              have f0 := hr4.frozen 0
              have f1 := hr4.frozen 1
              simp only [List.getElem?_toArray, List.getElem?_cons_zero, List.getElem?_cons_succ] at z0 z1
              have HSE := Lib.hid hsE
              have HEA := Lib.hid hEA
              clear hsE hEA hr4
              go_wp2
              refine bodyPost_ret (v := .agg #[.slice A3 ns.length c3, .slice EA (edgesOf ns ls).length ec]) (by simp [results, Try.results36, go_sem, z0, z1]) rfl ⟨⟨_, rfl, A3, c3, EA, ec, ns, rfl, ?_, ?_, HNA.out, fun x hx => (HMEM.out x).2 (.inl hx), hnl⟩, ?_⟩
              · have h := HS3.out.next hbp3
                have hA := HA3.out
                have h2 := (h.far (p := ⟨w.heap.size, 0, none⟩) (fun a e => by have := hA a e; simp; omega) (.slice A3 ns.length c3)).far (p := ⟨w.heap.size, 1, none⟩) (fun a e => by have := hA a e; simp; omega) (.slice EA (edgesOf ns ls).length ec)
                simpa using h2
              · have hA := HEA.out
                have h2 := (HSE.out.far (p := ⟨w.heap.size, 0, none⟩) (fun a e => by have := hA a e; simp; omega) (.slice A3 ns.length c3)).far (p := ⟨w.heap.size, 1, none⟩) (fun a e => by have := hA a e; simp; omega) (.slice EA (edgesOf ns ls).length ec)
                simpa using h2
              · have := hx3.trans (hbp3.mono hx3.size)
                repeat (first | with_reducible exact Below.refl _ _ | with_reducible assumption | (with_reducible refine Below.setCell ?_ ?_ _; rotate_left; focus (first | exact Nat.le_refl _ | exact Nat.le_add_right _ _ | (simp; done) | (simp; omega) | omega)) | (with_reducible refine Below.alloc ?_ ?_ _; rotate_left; focus (first | exact Nat.le_refl _ | exact Nat.le_add_right _ _ | (simp; done) | (simp; omega) | omega)) | with_reducible refine Below.drew ?_ | with_reducible refine below_drewN ?_ _ | (with_reducible refine below_nextN ?_ (by with_reducible assumption) ?_; rotate_left; focus (first | exact Nat.le_refl _ | exact Nat.le_add_right _ _ | (simp; done) | (simp; omega) | omega)))
end Go.Proofs.Ytoleifehijccmaa
