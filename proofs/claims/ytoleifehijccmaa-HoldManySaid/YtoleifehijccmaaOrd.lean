/-
  Plain mathematics: the order of identifiers is a total preorder, total on valid ones; ascending lists; Insert.
-/
import Derived.Test.YtoleifehijccmaaInsert
namespace Go.Proofs.Ytoleifehijccmaa
set_option linter.unusedVariables false

/-- A three-way comparison that is consistent. -/
structure IsCmp {α : Type} (c : α → α → Int) : Prop where
  anti : ∀ x y, c y x = - c x y
  trans : ∀ x y z, c x y ≤ 0 → c y z ≤ 0 → c x z ≤ 0
section
variable {α β : Type} {c : α → α → Int} {d : β → β → Int}
theorem IsCmp.refl (h : IsCmp c) (x : α) : c x x = 0 := by have := h.anti x x; omega
theorem IsCmp.lt_le (h : IsCmp c) {x y z : α} (h1 : c x y < 0) (h2 : c y z ≤ 0) : c x z < 0 := by
  have h3 := h.trans x y z (by omega) h2
  rcases Int.lt_or_le (c x z) 0 with h4 | h4
  · exact h4
  · have h5 := h.anti x z
    have h6 := h.trans y z x h2 (by omega)
    have h7 := h.anti x y
    omega
theorem IsCmp.le_lt (h : IsCmp c) {x y z : α} (h1 : c x y ≤ 0) (h2 : c y z < 0) : c x z < 0 := by
  have h3 := h.trans x y z h1 (by omega)
  rcases Int.lt_or_le (c x z) 0 with h4 | h4
  · exact h4
  · have h5 := h.anti x z
    have h6 := h.trans z x y (by omega) h1
    have h7 := h.anti y z
    omega
theorem IsCmp.pull (h : IsCmp c) (f : β → α) : IsCmp (fun x y => c (f x) (f y)) := ⟨fun _ _ => h.anti _ _, fun _ _ _ => h.trans _ _ _⟩
theorem IsCmp.lex {c c' : α → α → Int} (h : IsCmp c) (h' : IsCmp c') : IsCmp (fun x y => if c x y != 0 then c x y else c' x y) := by
  refine ⟨fun x y => ?_, fun x y z h1 h2 => ?_⟩
  · have e := h.anti x y
    have e' := h'.anti x y
    by_cases h0 : c x y = 0
    · have : c y x = 0 := by omega
      simp [h0, this, e']
    · have : ¬ c y x = 0 := by omega
      simp [h0, e]
  · have hxy : c x y ≤ 0 := by
      by_cases h0 : c x y = 0
      · omega
      · simpa [h0] using h1
    have hyz : c y z ≤ 0 := by
      by_cases h0 : c y z = 0
      · omega
      · simpa [h0] using h2
    have hxz := h.trans x y z hxy hyz
    by_cases h0 : c x z = 0
    · have h3 : c x y = 0 := by
        rcases Int.lt_or_le (c x y) 0 with h4 | h4
        · have := h.lt_le h4 hyz; omega
        · omega
      have h4 : c y z = 0 := by
        rcases Int.lt_or_le (c y z) 0 with h4 | h4
        · have := h.le_lt hxy h4; omega
        · omega
      simp [h3] at h1
      simp [h4] at h2
      simpa [h0] using h'.trans x y z h1 h2
    · simpa [h0] using hxz
end

theorem cmpInt_ok : IsCmp cmpInt := by
  refine ⟨fun x y => ?_, fun x y z h1 h2 => ?_⟩
  · unfold cmpInt; split <;> split <;> omega
  · unfold cmpInt at *
    split at h1 <;> split at h2 <;> (try split at h1) <;> (try split at h2) <;> (try omega) <;> (split <;> (try split) <;> omega)

theorem bytesLess_lt : ∀ (x y : List UInt8), Op.bytesLess x y = decide (x < y)
  | _, [] => by simp [Op.bytesLess]
  | [], _ :: _ => by simp [Op.bytesLess]
  | a :: x, b :: y => by
    rw [Op.bytesLess, bytesLess_lt x y, Bool.eq_iff_iff]
    simp [List.cons_lt_cons_iff]

theorem cmpStr_ok : IsCmp cmpStr := by
  have total : ∀ x y : List UInt8, ¬ x < y → ¬ y < x → x = y := fun x y h1 h2 => List.le_antisymm (List.not_lt.1 h2) (List.not_lt.1 h1)
  refine ⟨fun x y => ?_, fun x y z h1 h2 => ?_⟩
  · unfold cmpStr
    simp only [bytesLess_lt, decide_eq_true_eq]
    by_cases h1 : x.toList < y.toList
    · have h2 : ¬ y.toList < x.toList := fun h => List.lt_asymm h1 h
      simp [h1, h2]
    · by_cases h2 : y.toList < x.toList <;> simp [h1, h2]
  · unfold cmpStr at *
    simp only [bytesLess_lt, decide_eq_true_eq] at *
    have le1 : ¬ y.toList < x.toList := by
      intro h
      have h3 : ¬ x.toList < y.toList := fun h' => List.lt_asymm h h'
      simp [h, h3] at h1
    have le2 : ¬ z.toList < y.toList := by
      intro h
      have h3 : ¬ y.toList < z.toList := fun h' => List.lt_asymm h h'
      simp [h, h3] at h2
    have le3 : ¬ z.toList < x.toList := by
      have := List.le_trans (List.not_lt.1 le1) (List.not_lt.1 le2)
      exact List.not_lt.2 this
    by_cases h4 : x.toList < z.toList <;> simp [h4, le3]
theorem cmpStr_eq {x y : ByteArray} (h : cmpStr x y = 0) : x = y := by
  unfold cmpStr at h
  simp only [bytesLess_lt, decide_eq_true_eq] at h
  by_cases h1 : x.toList < y.toList
  · simp [h1] at h
  · by_cases h2 : y.toList < x.toList
    · simp [h1, h2] at h
    · exact ba_ext (List.le_antisymm (List.not_lt.1 h2) (List.not_lt.1 h1))
theorem cmpStr_refl (x : ByteArray) : cmpStr x x = 0 := cmpStr_ok.refl x
theorem cmpInt_eq {x y : Int} (h : cmpInt x y = 0) : x = y := by
  unfold cmpInt at h
  split at h
  · omega
  · split at h <;> omega

/-- On cleaned values the order is the order of the three fields. -/
def cmpFields (a b : Val) : Int := if cmpInt a.kind b.kind != 0 then cmpInt a.kind b.kind else if cmpInt a.num b.num != 0 then cmpInt a.num b.num else cmpStr a.text b.text
theorem cmpFields_ok : IsCmp cmpFields :=
  (cmpInt_ok.pull Val.kind).lex ((cmpInt_ok.pull Val.num).lex (cmpStr_ok.pull Val.text))
theorem cmpFields_eq {a b : Val} (h : cmpFields a b = 0) : a = b := by
  unfold cmpFields at h
  obtain ⟨k, n, t⟩ := a
  obtain ⟨k', n', t'⟩ := b
  simp only at h
  by_cases h1 : cmpInt k k' = 0
  · by_cases h2 : cmpInt n n' = 0
    · simp [h1, h2] at h
      rw [cmpInt_eq h1, cmpInt_eq h2, cmpStr_eq h]
    · simp [h1, h2] at h
  · simp [h1] at h
theorem cmpVal_fields (a b : Val) : cmpVal a b = cmpFields (clean a) (clean b) := by
  have ha := valB_cases (clean_valid a)
  have hb := valB_cases (clean_valid b)
  unfold cmpVal
  generalize clean a = c at *
  generalize clean b = d at *
  have hs := cmpStr_refl
  rcases ha with rfl | ⟨n, rfl, _, _⟩ | ⟨t, rfl, _⟩ <;> rcases hb with rfl | ⟨n', rfl, _, _⟩ | ⟨t', rfl, _⟩ <;> simp [cmpFields, hs, cmpInt]
theorem cmpVal_ok : IsCmp cmpVal := by
  have h := cmpFields_ok.pull clean
  have e : cmpVal = fun x y => cmpFields (clean x) (clean y) := by funext a b; exact cmpVal_fields a b
  rw [e]
  exact h
theorem cmpId_ok : IsCmp cmpId := (cmpStr_ok.pull Ident.ns).lex (cmpVal_ok.pull Ident.val)
theorem validId_val {x : Ident} (h : validId x = true) : valB x.val = true := by
  unfold validId at h
  simp only [Bool.and_eq_true] at h
  exact h.2.1
theorem cmpId_eq {x y : Ident} (hx : validId x = true) (hy : validId y = true) (h : cmpId x y = 0) : x = y := by
  unfold cmpId at h
  by_cases h1 : cmpStr x.ns y.ns = 0
  · simp [h1] at h
    rw [cmpVal_fields, clean_yes (validId_val hx), clean_yes (validId_val hy)] at h
    obtain ⟨s, v⟩ := x
    obtain ⟨s', v'⟩ := y
    simp only at h1 h
    rw [cmpStr_eq h1, cmpFields_eq h]
  · simp [h1] at h
theorem cmpId_refl (x : Ident) : cmpId x x = 0 := cmpId_ok.refl x

/-- Ascending. -/
def Asc (l : List Ident) : Prop := l.Pairwise (fun x y => cmpId x y < 0)
def AllValid (l : List Ident) : Prop := ∀ x ∈ l, validId x = true
theorem Asc.nodup {l : List Ident} (h : Asc l) : l.Nodup := List.Pairwise.imp (fun {a b} hab e => by subst e; rw [cmpId_refl] at hab; omega) h
/-- Two ascending lists with the same members are one. -/
theorem Asc.ext : ∀ {l l' : List Ident}, Asc l → Asc l' → (∀ x, x ∈ l ↔ x ∈ l') → l = l'
  | [], [], _, _, _ => rfl
  | [], y :: l', _, _, h => absurd ((h y).2 (by simp)) (by simp)
  | x :: l, [], _, _, h => absurd ((h x).1 (by simp)) (by simp)
  | x :: l, y :: l', h1, h2, h => by
    have h1' := List.pairwise_cons.1 h1
    have h2' := List.pairwise_cons.1 h2
    have e : x = y := by
      have hx : x ∈ y :: l' := (h x).1 (by simp)
      have hy : y ∈ x :: l := (h y).2 (by simp)
      rcases List.mem_cons.1 hx with e | hx'
      · exact e
      · rcases List.mem_cons.1 hy with e | hy'
        · exact e.symm
        · have a := h2'.1 x hx'
          have b := h1'.1 y hy'
          have := cmpId_ok.anti x y
          omega
    subst e
    congr 1
    refine Asc.ext h1'.2 h2'.2 fun z => ?_
    have hz := h z
    simp only [List.mem_cons] at hz
    constructor
    · intro hm
      rcases hz.1 (.inr hm) with e | hm'
      · subst e; have := h1'.1 z hm; rw [cmpId_refl] at this; omega
      · exact hm'
    · intro hm
      rcases hz.2 (.inr hm) with e | hm'
      · subst e; have := h2'.1 z hm; rw [cmpId_refl] at this; omega
      · exact hm'

theorem insK_le (l : List Ident) (x : Ident) : insK l x ≤ l.length := by
  unfold insK
  exact (List.takeWhile_sublist _).length_le
theorem insK_before (l : List Ident) (x : Ident) : ∀ y ∈ l.take (insK l x), cmpId y x < 0 := by
  intro y hy
  have e : l.take (insK l x) = l.takeWhile (fun y => decide (cmpId y x < 0)) := by
    unfold insK
    exact (List.prefix_iff_eq_take.1 (List.takeWhile_prefix _)).symm
  rw [e] at hy
  have := List.all_takeWhile (p := fun y => decide (cmpId y x < 0)) (l := l)
  rw [List.all_eq_true] at this
  simpa using this y hy
theorem insK_at (l : List Ident) (x : Ident) (h : insK l x < l.length) : 0 ≤ cmpId l[insK l x] x := by
  rcases Int.lt_or_le (cmpId l[insK l x] x) 0 with h1 | h1
  · exfalso
    have key : ∀ (l : List Ident) (h : (l.takeWhile (fun y => decide (cmpId y x < 0))).length < l.length), ¬ cmpId (l[(l.takeWhile (fun y => decide (cmpId y x < 0))).length]) x < 0 := by
      intro l
      induction l with
      | nil => intro h; simp at h
      | cons a l ih =>
        intro h
        by_cases ha : cmpId a x < 0
        · have e : (a :: l).takeWhile (fun y => decide (cmpId y x < 0)) = a :: l.takeWhile (fun y => decide (cmpId y x < 0)) := List.takeWhile_cons_of_pos (by simpa using ha)
          simp only [e, List.length_cons] at h ⊢
          simpa using ih (by omega)
        · have e : (a :: l).takeWhile (fun y => decide (cmpId y x < 0)) = [] := List.takeWhile_cons_of_neg (by simpa using ha)
          simp only [e, List.length_nil]
          simpa using ha
    exact key l h h1
  · exact h1

theorem insertId_spec {l : List Ident} {x : Ident} (hl : Asc l) (hv : AllValid l) (hx : validId x = true) : Asc (insertId l x) ∧ (∀ y, y ∈ insertId l x ↔ y = x ∨ y ∈ l) ∧ l.length ≤ (insertId l x).length := by
  have hk := insK_le l x
  unfold insertId
  by_cases he : l[insK l x]? = some x
  · rw [if_pos he]
    have hm : x ∈ l := List.mem_of_getElem? he
    exact ⟨hl, fun y => ⟨.inr, fun h => h.elim (fun e => e ▸ hm) id⟩, Nat.le_refl _⟩
  · rw [if_neg he]
    have hbefore := insK_before l x
    have hafter : ∀ y ∈ l.drop (insK l x), cmpId x y < 0 := by
      intro y hy
      have hlt : insK l x < l.length := by
        rcases Nat.lt_or_ge (insK l x) l.length with h | h
        · exact h
        · rw [List.drop_eq_nil_of_le h] at hy; cases hy
      have h0 := insK_at l x hlt
      rw [List.drop_eq_getElem_cons hlt] at hy
      have hne : cmpId l[insK l x] x ≠ 0 := by
        intro e
        have := cmpId_eq (hv _ (List.getElem_mem hlt)) hx e
        exact he (by rw [List.getElem?_eq_getElem hlt, this])
      have hlt' : cmpId x l[insK l x] < 0 := by have := cmpId_ok.anti l[insK l x] x; omega
      rcases List.mem_cons.1 hy with e | hy'
      · rw [e]; exact hlt'
      · have hp : (l.drop (insK l x)).Pairwise (fun x y => cmpId x y < 0) := hl.drop
        rw [List.drop_eq_getElem_cons hlt] at hp
        have := (List.pairwise_cons.1 hp).1 y hy'
        exact cmpId_ok.lt_le hlt' (by omega)
    refine ⟨?_, fun y => ?_, ?_⟩
    · unfold Asc
      rw [List.pairwise_append]
      refine ⟨hl.take, List.pairwise_cons.2 ⟨hafter, hl.drop⟩, fun a ha b hb => ?_⟩
      rcases List.mem_cons.1 hb with e | hb'
      · rw [e]; exact hbefore a ha
      · exact cmpId_ok.lt_le (hbefore a ha) (by have := hafter b hb'; omega)
    · rw [List.mem_append, List.mem_cons]
      constructor
      · rintro (h | h | h)
        · exact .inr (List.mem_of_mem_take h)
        · exact .inl h
        · exact .inr (List.mem_of_mem_drop h)
      · rintro (h | h)
        · exact .inr (.inl h)
        · rw [← List.take_append_drop (insK l x) l, List.mem_append] at h
          exact h.elim .inl (fun h => .inr (.inr h))
    · rw [List.length_append, List.length_cons, List.length_take, List.length_drop]
      omega

theorem nodup_le {α : Type} [DecidableEq α] : ∀ {l l' : List α}, l.Nodup → (∀ x ∈ l, x ∈ l') → l.length ≤ l'.length
  | [], _, _, _ => by simp
  | x :: l, l', hn, hs => by
    have hn' := List.nodup_cons.1 hn
    have hx : x ∈ l' := hs x (by simp)
    have := nodup_le (l := l) (l' := l'.erase x) hn'.2 (fun y hy => by
      have hne : y ≠ x := fun e => hn'.1 (e ▸ hy)
      exact (List.mem_erase_of_ne hne).2 (hs y (by simp [hy])))
    rw [List.length_erase_of_mem hx] at this
    have hpos : 0 < l'.length := List.length_pos_of_mem hx
    simp only [List.length_cons]
    omega
end Go.Proofs.Ytoleifehijccmaa
