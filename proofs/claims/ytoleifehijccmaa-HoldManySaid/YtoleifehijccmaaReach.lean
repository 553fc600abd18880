/-
  Plain mathematics: valid lists of links; being linked at a position; components and subjects as ascending lists.
-/
import Derived.Test.YtoleifehijccmaaDirect
import Derived.Test.YtoleifehijccmaaOrd
namespace Go.Proofs.Ytoleifehijccmaa
set_option linter.unusedVariables false

/-- A valid event behind position 'prev'. -/
def linkOk (prev : Int) (x : Link) : Bool := decide (prev < x.seq) && decide (x.seq ≤ 1073741824) && (validId x.a && (validId x.b && decide (x.a ≠ x.b)))
/-- A valid list of links (P16.1), from position 'last' on. -/
def validFrom : Int → List Link → Bool
  | _, [] => true
  | last, x :: l => linkOk last x && validFrom x.seq l
def validLinks (l : List Link) : Bool := decide (l.length ≤ 64) && validFrom 0 l

/-- Event i, in force at a position, links u and v. -/
def EdgeAt (l : List Link) (seq : Int) (u v : Ident) : Prop :=
  ∃ i, ∃ h : i < l.length, directB l l[i] i seq = true ∧ ((l[i].a = u ∧ l[i].b = v) ∨ (l[i].b = u ∧ l[i].a = v))
inductive Reach (l : List Link) (seq : Int) (u : Ident) : Ident → Prop where
  | refl : Reach l seq u u
  | step {v z : Ident} : Reach l seq u v → EdgeAt l seq v z → Reach l seq u z

theorem EdgeAt.symm {l : List Link} {seq : Int} {u v : Ident} (h : EdgeAt l seq u v) : EdgeAt l seq v u := by
  obtain ⟨i, hi, hd, h⟩ := h
  exact ⟨i, hi, hd, h.elim (fun ⟨a, b⟩ => .inr ⟨b, a⟩) (fun ⟨a, b⟩ => .inl ⟨b, a⟩)⟩
theorem Reach.trans {l : List Link} {seq : Int} {u v z : Ident} (h : Reach l seq u v) (k : Reach l seq v z) : Reach l seq u z := by
  induction k with
  | refl => exact h
  | step _ e ih => exact .step ih e
theorem Reach.symm {l : List Link} {seq : Int} {u v : Ident} (h : Reach l seq u v) : Reach l seq v u := by
  induction h with
  | refl => exact .refl
  | step _ e ih => exact Reach.trans (.step .refl e.symm) ih
/-- What a set contains that holds u and is closed. -/
theorem Reach.closed {l : List Link} {seq : Int} {u v : Ident} (h : Reach l seq u v) (S : Ident → Prop) (h0 : S u) (hs : ∀ a b, S a → EdgeAt l seq a b → S b) : S v := by
  induction h with
  | refl => exact h0
  | step _ e ih => exact hs _ _ ih e
/-- The component of who at a position, as an ascending list. -/
def IsAt (l : List Link) (who : Ident) (seq : Int) (out : List Ident) : Prop := Asc out ∧ ∀ y, y ∈ out ↔ Reach l seq who y
/-- The subject of who from a position on. -/
def InSubject (l : List Link) (who : Ident) (from_ : Int) (y : Ident) : Prop := Reach l from_ who y ∨ ∃ x ∈ l, from_ < x.seq ∧ Reach l x.seq who y
def IsSubject (l : List Link) (who : Ident) (from_ : Int) (out : List Ident) : Prop := Asc out ∧ ∀ y, y ∈ out ↔ InSubject l who from_ y
theorem IsAt.unique {l : List Link} {who : Ident} {seq : Int} {o o' : List Ident} (h : IsAt l who seq o) (h' : IsAt l who seq o') : o = o' :=
  Asc.ext h.1 h'.1 fun x => (h.2 x).trans (h'.2 x).symm
theorem IsSubject.unique {l : List Link} {who : Ident} {seq : Int} {o o' : List Ident} (h : IsSubject l who seq o) (h' : IsSubject l who seq o') : o = o' :=
  Asc.ext h.1 h'.1 fun x => (h.2 x).trans (h'.2 x).symm

theorem validFrom_mem : ∀ {last : Int} {l : List Link}, validFrom last l = true → ∀ x ∈ l, last < x.seq ∧ x.seq ≤ 1073741824 ∧ validId x.a = true ∧ validId x.b = true ∧ x.a ≠ x.b
  | _, [], _, _, h => by cases h
  | last, y :: l, hv, x, h => by
    simp only [validFrom, linkOk, Bool.and_eq_true, decide_eq_true_eq] at hv
    rcases List.mem_cons.1 h with e | h'
    · subst e
      exact ⟨hv.1.1.1, hv.1.1.2, hv.1.2.1, hv.1.2.2.1, hv.1.2.2.2⟩
    · have := validFrom_mem hv.2 x h'
      exact ⟨by omega, this.2⟩
theorem validLinks_mem {l : List Link} (h : validLinks l = true) : ∀ x ∈ l, 0 < x.seq ∧ x.seq ≤ 1073741824 ∧ validId x.a = true ∧ validId x.b = true ∧ x.a ≠ x.b := by
  simp only [validLinks, Bool.and_eq_true] at h
  exact validFrom_mem h.2
theorem validLinks_len {l : List Link} (h : validLinks l = true) : l.length ≤ 64 := by
  simp only [validLinks, Bool.and_eq_true, decide_eq_true_eq] at h
  exact h.1
theorem validFrom_asc : ∀ {last : Int} {l : List Link}, validFrom last l = true → l.Pairwise (fun x y => x.seq < y.seq)
  | _, [], _ => List.Pairwise.nil
  | last, x :: l, hv => by
    simp only [validFrom, Bool.and_eq_true] at hv
    exact List.pairwise_cons.2 ⟨fun y hy => (validFrom_mem hv.2 y hy).1, validFrom_asc hv.2⟩
theorem validLinks_asc {l : List Link} (h : validLinks l = true) : l.Pairwise (fun x y => x.seq < y.seq) := by
  simp only [validLinks, Bool.and_eq_true] at h
  exact validFrom_asc h.2

/-- All identifiers that are named, with who. -/
def named (l : List Link) (who : Ident) : List Ident := who :: l.flatMap (fun x => [x.a, x.b])
theorem named_length (l : List Link) (who : Ident) : (named l who).length = 2 * l.length + 1 := by
  unfold named
  have : ∀ l : List Link, (l.flatMap (fun x => [x.a, x.b])).length = 2 * l.length := by
    intro l
    induction l with
    | nil => rfl
    | cons x l ih => rw [List.flatMap_cons, List.length_append, ih, List.length_cons]; simp; omega
  rw [List.length_cons, this]
theorem Reach.named {l : List Link} {seq : Int} {who y : Ident} (h : Reach l seq who y) : y ∈ named l who := by
  cases h with
  | refl => simp [Proofs.Ytoleifehijccmaa.named]
  | step _ e =>
    obtain ⟨i, hi, _, h⟩ := e
    have hm : l[i] ∈ l := List.getElem_mem hi
    unfold Proofs.Ytoleifehijccmaa.named
    refine List.mem_cons_of_mem _ (List.mem_flatMap.2 ⟨l[i], hm, ?_⟩)
    rcases h with ⟨_, h⟩ | ⟨_, h⟩ <;> simp [h]
theorem Reach.valid {l : List Link} {seq : Int} {who y : Ident} (hl : validLinks l = true) (hw : validId who = true) (h : Reach l seq who y) : validId y = true := by
  cases h with
  | refl => exact hw
  | step _ e =>
    obtain ⟨i, hi, _, h⟩ := e
    have hm := validLinks_mem hl l[i] (List.getElem_mem hi)
    rcases h with ⟨_, h⟩ | ⟨_, h⟩
    · rw [← h]; exact hm.2.2.2.1
    · rw [← h]; exact hm.2.2.1
end Go.Proofs.Ytoleifehijccmaa
