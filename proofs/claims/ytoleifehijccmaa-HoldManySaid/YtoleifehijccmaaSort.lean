/-
  slices.SortFunc over identifiers (the shelf's contract at structs).
  LAY: shelf_lay_g SlLaysF0.n6 Slsf 6 at Try 67 as Try.sortIdL
-/
import Derived.Shelf.SlSortCmp.NoneTotal
import Derived.Sort.OwnSortedInts
import Derived.Test.YtoleifehijccmaaCompact
import Derived.Test.YtoleifehijccmaaSortLay
namespace Go.Proofs.Ytoleifehijccmaa
set_option linter.unusedVariables false
open Go.RowKit Go.Shelf Go.Sort

instance : Inhabited Ident := ⟨⟨⟨#[]⟩, ⟨0, 0, ⟨#[]⟩⟩⟩⟩

theorem flatK_eq {α : Type} [Inhabited α] {enc : α → List Value} {k : Nat} (hk : ∀ x, (enc x).length = k) (l : List α) : flatK enc k l.toArray = (l.flatMap enc).toArray := by
  apply ext_get!
  · simp [flat_length hk]
  · intro t ht
    have ht : t < l.length * k := by simpa using ht
    have hk0 : 0 < k := by
      rcases Nat.eq_zero_or_pos k with h | h
      · rw [h] at ht; omega
      · exact h
    have hi : t / k < l.length := Nat.div_lt_of_lt_mul (by rw [Nat.mul_comm]; exact ht)
    have hj : t % k < (enc l[t / k]).length := by rw [hk]; exact Nat.mod_lt _ hk0
    rw [get_flatK enc k _ t (by simpa using ht)]
    have h1 := flat_get hk l (t / k) hi (t % k) _ (List.getElem?_eq_getElem hj)
    rw [Nat.div_add_mod' t k] at h1
    have e1 : l.toArray[t / k]! = l[t / k] := by rw [getElem!_pos _ _ (by simpa using hi)]; simp
    have hfl : t < (l.flatMap enc).length := by rw [flat_length hk]; exact ht
    rw [e1, getElem!_pos (enc l[t / k]) (t % k) hj, getElem!_pos (l.flatMap enc).toArray t (by simpa using hfl)]
    rw [List.getElem?_eq_getElem hfl] at h1
    simpa using (Option.some.inj h1).symm

theorem take_putId (cur : Array Value) (ts : List Value) (h : ts.length ≤ cur.size) : (putCells id 0 ts.toArray cur).toList.take ts.length = ts := by
  apply List.ext_getElem?
  intro j
  by_cases hj : j < ts.length
  · rw [List.getElem?_take_of_lt hj, Array.getElem?_toList]
    simp [putCells, hj, show j < cur.size by omega]
  · rw [List.getElem?_take_eq_none (by omega), List.getElem?_eq_none (by omega)]

theorem cmpId_swo : SWO (ltOf cmpId) where
  irrefl x := by simp [ltOf, cmpId_refl]
  trans x y z h1 h2 := by
    simp [ltOf] at *
    exact cmpId_ok.lt_le h1 (by omega)
  ntrans x y z h1 h2 := by
    simp [ltOf] at *
    have a := cmpId_ok.anti x y
    have b := cmpId_ok.anti y z
    have c := cmpId_ok.anti x z
    have := cmpId_ok.trans z y x (by omega) (by omega)
    omega

theorem sort_any (base g c : Nat) (l : List Ident) (w : World) (h : Owns w base 27 Ident.cells 4 (.slice (some ⟨g, 0, none⟩) l.length c) l) (hn : l.length ≤ 1000000) :
    Calls Try.prog 67 #[.slice (some ⟨g, 0, none⟩) l.length c, .func (.func 27) #[] #[]] w fun e w' =>
      e = .returned (.tuple #[]) ∧ ∃ l' : List Ident, l'.Perm l ∧ Weak l' ∧ Owns w' base 27 Ident.cells 4 (.slice (some ⟨g, 0, none⟩) l.length c) l' ∧ w.grownBy w' (some g) := by
  have eg : ∀ args w, (callFunc 27 args).run Try.prog w = .ok (.enter 27 args) w := enters_of Try.func27 (by kernel_rfl) rfl
  have hcmp : CmpLays Try.prog 27 #[] Ident.cells 4 cmpId g 0 l.toArray.size w := fun m os dk _ x y =>
    (identity_CompareId x y _).mono fun e w' ⟨he, hx⟩ => ⟨he, hx.grow⟩
  have hg := h.blk_lt
  have hH : HoldsK Ident.cells 4 w g 0 l.toArray := by
    intro j hj
    rw [flatK_eq ident_len] at hj ⊢
    have hj : j < (l.flatMap Ident.cells).length := by simpa using hj
    refine ⟨?_, h.frz _⟩
    rw [Nat.zero_add, World.ownsRow.cellAt h _ (by rw [← flat_length ident_len]; exact hj), List.getElem?_eq_getElem hj, getElem!_pos _ _ (by simpa using hj)]
    simp
  have hcon := AnyQ.slices_SortFunc Try.sortIdL 4 Try.isAgg27 Try.sizeOf27 Ident.cells ident_len (fun x v hv => ident_one x v hv) cmpId cmpId_swo 27 #[] g 0 c l.toArray w eg hcmp hH hg.2 (by simp; omega)
  change Calls Try.prog 67 _ _ _ at hcon
  refine hcon.mono ?_
  rintro e w' ⟨rfl, d', n, os, ⟨hp1, _, hp2⟩, hs, rfl⟩
  have hlen : d'.toList.length = l.length := by simpa using hp1
  refine ⟨rfl, d'.toList, ?_, ?_, ?_, ?_⟩
  · have e1 : (d'.extract 0 l.toArray.size).toList = d'.toList := by rw [← hp1]; simp
    have e2 : (l.toArray.extract 0 l.toArray.size).toList = l := by simp
    rw [e1, e2] at hp2
    exact hp2
  · refine List.pairwise_iff_getElem.2 fun i j hi hj hij => ?_
    have h1 := hs i j (Nat.zero_le _) hij (by rw [List.size_toArray, ← hlen]; exact hj)
    rw [getElem!_pos d' j (by simpa using hj), getElem!_pos d' i (by simpa using hi)] at h1
    simp [ltOf] at h1
    have := cmpId_ok.anti d'[i] d'[j]
    simp
    omega
  · rcases h.2 with ⟨h', _⟩ | ⟨g', cap', cur, h', hb, hgb, hnc, hcm, hcs, ht⟩
    · simp at h'
    · injection h' with h1 _ h3
      injection h1 with h1
      injection h1 with h1
      subst h1 h3
      have hfl : (d'.toList.flatMap Ident.cells).length = l.length * 4 := by rw [flat_length ident_len, hlen]
      refine ⟨by rw [flat_length ident_len], .inr ⟨g, c, putCells id 0 (flatK Ident.cells 4 d') cur, by rw [hlen], hb, ?_, by omega, hcm, by simp [putCells, hcs], ?_⟩⟩
      · unfold sortWorldK putRowK
        rw [heap_grow_old _ _ (by simpa using hg.2)]
        simp [putRow, mapBlock, Sort.ahead, Array.getElem?_modify, hgb, onCells]
      · have e3 : flatK Ident.cells 4 d' = (d'.toList.flatMap Ident.cells).toArray := flatK_eq ident_len d'.toList
        rw [e3, hlen, ← hfl]
        exact take_putId _ _ (by rw [hfl, hcs]; omega)
  · unfold sortWorldK putRowK
    refine ⟨rfl, rfl, rfl, by simp, fun k hk hne => ?_⟩
    rw [heap_grow_old _ _ (by simpa using hk)]
    have : g ≠ k := fun e => hne (by rw [e])
    simp [putRow, mapBlock, Sort.ahead, Array.getElem?_modify, this]
end Go.Proofs.Ytoleifehijccmaa
