/-
  Layer 16: (graph).list: the marked identifiers.
-/
import Derived.Test.YtoleifehijccmaaChoose
namespace Go.Proofs.Ytoleifehijccmaa
set_option linter.unusedVariables false
open Go.RowKit

/-- The marked ones among the first m. -/
def keepTo (l : List Ident) (bs : List Bool) (m : Nat) : List Ident := ((l.zip bs).take m).filterMap (fun p => if p.2 then some p.1 else none)
theorem keepTo_succ (l : List Ident) (bs : List Bool) (m : Nat) (h : m < l.length) {b : Bool} (hb : bs[m]? = some b) : keepTo l bs (m + 1) = if b then keepTo l bs m ++ [l[m]] else keepTo l bs m := by
  have hbl : m < bs.length := (List.getElem?_eq_some_iff.1 hb).1
  have hbe : bs[m] = b := (List.getElem?_eq_some_iff.1 hb).2
  have hz : m < (l.zip bs).length := by simp; omega
  unfold keepTo
  rw [List.take_succ_eq_append_getElem hz, List.filterMap_append, List.getElem_zip, hbe]
  cases b <;> simp
theorem keepTo_len (l : List Ident) (bs : List Bool) (m : Nat) : (keepTo l bs m).length ≤ l.length := by
  unfold keepTo
  refine Nat.le_trans (List.length_filterMap_le _ _) ?_
  simp
  omega
theorem keepTo_sub : ∀ (l : List Ident) (bs : List Bool) (m : Nat), (keepTo l bs m).Sublist l
  | [], _, m => by simp [keepTo]
  | x :: l, [], m => by simp [keepTo]
  | x :: l, b :: bs, 0 => by simp [keepTo]
  | x :: l, b :: bs, m + 1 => by
    have ih := keepTo_sub l bs m
    unfold keepTo at *
    cases b
    · simpa using ih.cons x
    · simpa using ih.cons_cons x
theorem keepTo_mem : ∀ (l : List Ident) (bs : List Bool) (y : Ident), l.length = bs.length → (y ∈ keepTo l bs l.length ↔ ∃ i : Nat, l[i]? = some y ∧ bs[i]? = some true)
  | [], bs, y, _ => by simp [keepTo]
  | x :: l, [], y, h => by simp at h
  | x :: l, b :: bs, y, h => by
    have ih := keepTo_mem l bs y (by simpa using h)
    have e : y ∈ keepTo (x :: l) (b :: bs) (x :: l).length ↔ (b = true ∧ y = x) ∨ y ∈ keepTo l bs l.length := by
      unfold keepTo
      cases b <;> simp
    rw [e, ih]
    constructor
    · rintro (⟨h1, h2⟩ | ⟨i, h1, h2⟩)
      · exact ⟨0, by simp [h2], by simp [h1]⟩
      · exact ⟨i + 1, by simpa using h1, by simpa using h2⟩
    · rintro ⟨i, h1, h2⟩
      cases i with
      | zero => simp at h1 h2; exact .inl ⟨h2, h1.symm⟩
      | succ i => exact .inr ⟨i, by simpa using h1, by simpa using h2⟩

set_option maxRecDepth 100000 in
set_option maxHeartbeats 1000000 in
theorem graph_list (A : Option Addr) (c : Nat) (l : List Ident) (EA : Option Addr) (en ec gb cb : Nat) (bs : List Bool) (w : World)
    (hl : SliceIs w w.heap.size Ident.cells 4 A l) (hn : l.length ≤ 1000000) (hb : BoolBlk w gb bs) (hbl : bs.length = l.length) :
    Calls Try.prog 38 #[.agg #[.slice A l.length c, .slice EA en ec], .slice (some ⟨gb, 0, none⟩) l.length cb] w fun e w' =>
      (∃ A' c', e = .returned (.slice A' (keepTo l bs l.length).length c') ∧ (keepTo l bs l.length).length ≤ c' ∧ SliceIs w' w'.heap.size Ident.cells 4 A' (keepTo l bs l.length)) ∧ Below w.heap.size w w' := by
  obtain ⟨i0, hi0, hz0, hz1, hz2⟩ := info_parts infoIdent
  have HB := Lib.hid hb
  have hgl := Blk.lt hb
  clear hb
  go_enter Try.func38, Try.ntmps38
  go_wp2
  go_loopw [5, 11] (fun vo vi wr => ∃ m : Nat, m ≤ l.length ∧ vi = .int .i64 m ∧ Owns wr w.heap.size 27 Ident.cells 4 vo (keepTo l bs m) ∧ Below w.heap.size w wr) (fun _ vi _ => l.length - (intOf vi).toNat)
  case atStart => exact ⟨0, Nat.zero_le _, rfl, Owns.nil, by repeat (first | with_reducible exact Below.refl _ _ | with_reducible assumption | (with_reducible refine Below.setCell ?_ ?_ _; rotate_left; focus (first | exact Nat.le_refl _ | exact Nat.le_add_right _ _ | (simp; done) | (simp; omega) | omega)) | (with_reducible refine Below.alloc ?_ ?_ _; rotate_left; focus (first | exact Nat.le_refl _ | exact Nat.le_add_right _ _ | (simp; done) | (simp; omega) | omega)) | with_reducible refine Below.drew ?_ | with_reducible refine below_drewN ?_ _ | (with_reducible refine below_nextN ?_ (by with_reducible assumption) ?_; rotate_left; focus (first | exact Nat.le_refl _ | exact Nat.le_add_right _ _ | (simp; done) | (simp; omega) | omega)))⟩
  case round =>
    obtain ⟨m, hm, rfl, hown, hbw⟩ := hrel
    have HOWN := Lib.hid hown
    have hrow := hown.row
    have hwz := hbw.size
    clear hown
    by_cases hlt : m < l.length
    · obtain ⟨b, o, rfl, hb, hc⟩ := (hl.below hbw).get hlt
      obtain ⟨h0, h1, h2, h3⟩ := Ident.cells4 hc
      clear hc
      obtain ⟨p, hp⟩ : ∃ p, bs[m]? = some p := ⟨_, List.getElem?_eq_getElem (by rw [hbl]; exact hlt)⟩
      have hcb : wr.cell? ⟨gb, m, none⟩ = some (.bool p) := (hbw.cell (p := ⟨gb, m, none⟩) hgl).trans (HB.out.cell hp)
      have hstep := keepTo_succ l bs m hlt hp
      have HST := Lib.hid hstep
      have HP := Lib.hid hp
      have hkl := keepTo_len l bs m
      clear hstep hp
      have hcb' : ∀ o, (wr.alloc o).cell? ⟨gb, m, none⟩ = some (.bool p) := fun o => by rw [World.cell?_alloc_lt]; exact hcb; have := hbw.size; simp; omega
      cases p
      · go_wp2
        go_roundw
        case rel => exact ⟨m + 1, by omega, by go_num, by rw [HST.out]; exact HOWN.out.alloc _, hbw.alloc hbw.size _⟩
        case measure => simp [intOf]; omega
      · go_wp2_with ((at_builtin; refine wpList_append_list _ rfl (.tmp 20) (.tmp 22) 31 rfl 27 i0 _ Ident.cells 4 48 Try.underlying31 hi0 hz0 hz1 hz2 rfl (by omega) ident_len ident_one w.heap.size u5 (keepTo l bs m) rfl ((HOWN.out.alloc _).alloc _) _ _ _ [l[m]] rfl rfl (Blk.one (enc := Ident.cells) (x := l[m]) (Blk.new' (by simp)) (by simp)) (by simp; omega) (by simp [maxLen]; omega) (by have := hbw.size; simp; omega) ?_; intro v' w1 hown' hg' hat'; have HOWN' := Lib.hid hown'; clear hown'; have hbel : Below w.heap.size w w1 := Below.grown (by repeat (first | with_reducible exact Below.refl _ _ | with_reducible assumption | (with_reducible refine Below.setCell ?_ ?_ _; rotate_left; focus (first | exact Nat.le_refl _ | exact Nat.le_add_right _ _ | (simp; done) | (simp; omega) | omega)) | (with_reducible refine Below.alloc ?_ ?_ _; rotate_left; focus (first | exact Nat.le_refl _ | exact Nat.le_add_right _ _ | (simp; done) | (simp; omega) | omega)) | with_reducible refine Below.drew ?_ | with_reducible refine below_drewN ?_ _ | (with_reducible refine below_nextN ?_ (by with_reducible assumption) ?_; rotate_left; focus (first | exact Nat.le_refl _ | exact Nat.le_add_right _ _ | (simp; done) | (simp; omega) | omega)))) hg' (by have := hbw.size; simp; omega) hrow))
        go_roundw
        case rel => exact ⟨m + 1, by omega, by go_num, by rw [HST.out]; exact HOWN'.out, hbel⟩
        case measure => simp [intOf]; omega
    · obtain rfl : m = l.length := by omega
      obtain ⟨A', c', rfl, hc', hs', _⟩ := HOWN.out.slice ident_len
      go_wp2
      go_ret
      exact ⟨⟨A', c', rfl, hc', hs'⟩, hbw⟩
end Go.Proofs.Ytoleifehijccmaa
