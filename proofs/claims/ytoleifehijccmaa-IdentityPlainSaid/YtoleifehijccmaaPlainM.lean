/-
  Plain mathematics for IdentityPlain: without revocations the links in force are all the links that there are, so components only grow, and the order of the two identifiers of a link does not matter.
-/
import Derived.Test.YtoleifehijccmaaEquiv
import Derived.Test.YtoleifehijccmaaGrowM
namespace Go.Proofs.Ytoleifehijccmaa
set_option linter.unusedVariables false

def Links2 (x : Link) (u v : Ident) : Prop := (x.a = u ∧ x.b = v) ∨ (x.b = u ∧ x.a = v)
theorem last_with {α : Type} {Q : α → Prop} : ∀ (l : List α), (∃ x ∈ l, Q x) → ∃ pre x post, l = pre ++ x :: post ∧ Q x ∧ ∀ y ∈ post, ¬ Q y
  | [], h => by obtain ⟨x, hx, _⟩ := h; cases hx
  | z :: l, h => by
    by_cases hl : ∃ x ∈ l, Q x
    · obtain ⟨pre, x, post, e, hq, hp⟩ := last_with l hl
      exact ⟨z :: pre, x, post, by rw [e]; rfl, hq, hp⟩
    · obtain ⟨x, hx, hq⟩ := h
      rcases List.mem_cons.1 hx with rfl | hx
      · exact ⟨[], x, l, rfl, hq, fun y hy hqy => hl ⟨y, hy, hqy⟩⟩
      · exact absurd ⟨x, hx, hq⟩ hl
theorem mem_takeW {α : Type} {p : α → Bool} : ∀ {l : List α} {y : α}, y ∈ l.takeWhile p → p y = true ∧ y ∈ l
  | [], y, h => by simp at h
  | z :: l, y, h => by
    rw [List.takeWhile_cons] at h
    split at h
    · rename_i hz
      rcases List.mem_cons.1 h with rfl | h
      · exact ⟨hz, by simp⟩
      · exact ⟨(mem_takeW h).1, by simp [(mem_takeW h).2]⟩
    · cases h
theorem plain_edge {l : List Link} (hr : ∀ x ∈ l, x.rev = false) {s : Int} {u v : Ident} : EdgeAt l s u v ↔ ∃ x ∈ l, x.seq ≤ s ∧ Links2 x u v := by
  constructor
  · rintro ⟨i, hi, hd, hj⟩
    refine ⟨l[i], List.getElem_mem hi, ?_, hj⟩
    simp only [directB, Bool.and_eq_true, decide_eq_true_eq] at hd
    exact hd.1.1
  · intro h
    obtain ⟨pre, x, post, rfl, ⟨hs, hj⟩, hp⟩ := last_with (Q := fun x => x.seq ≤ s ∧ Links2 x u v) l h
    have e : (pre ++ x :: post)[pre.length]'(by simp) = x := by simp
    have ed : (pre ++ x :: post).drop (pre.length + 1) = post := by simp
    refine ⟨pre.length, by simp, ?_, by rw [e]; exact hj⟩
    unfold directB
    rw [e, ed, hr x (by simp)]
    have h2 : (post.takeWhile (fun y => decide (y.seq ≤ s))).any (fun y => samePair y x) = false := by
      rw [List.any_eq_false]
      intro y hy hsp
      have hm := mem_takeW hy
      refine hp y hm.2 ⟨by simpa using hm.1, ?_⟩
      simp only [samePair, Bool.or_eq_true, Bool.and_eq_true, decide_eq_true_eq] at hsp
      rcases hsp with ⟨h1, h2⟩ | ⟨h1, h2⟩ <;> rcases hj with ⟨h3, h4⟩ | ⟨h3, h4⟩
      · exact .inl ⟨h1.trans h3, h2.trans h4⟩
      · exact .inr ⟨h2.trans h3, h1.trans h4⟩
      · exact .inr ⟨h2.trans h3, h1.trans h4⟩
      · exact .inl ⟨h1.trans h3, h2.trans h4⟩
    simp [hs, h2]
theorem reach_edges {l l' : List Link} {s s' : Int} {u v : Ident} (h : ∀ u v, EdgeAt l s u v → EdgeAt l' s' u v) (hr : Reach l s u v) : Reach l' s' u v := by
  induction hr with
  | refl => exact .refl
  | step _ e ih => exact .step ih (h _ _ e)
theorem plain_mono {l : List Link} (hr : ∀ x ∈ l, x.rev = false) {s s' : Int} (hs : s ≤ s') {u v : Ident} (h : Reach l s u v) : Reach l s' u v :=
  reach_edges (fun u v e => by
    obtain ⟨x, hx, h1, h2⟩ := (plain_edge hr).1 e
    exact (plain_edge hr).2 ⟨x, hx, by omega, h2⟩) h
theorem plain_subject {l : List Link} (hv : validLinks l = true) (hr : ∀ x ∈ l, x.rev = false) {who : Ident} {f : Int} (hf : f ≤ 1073741824) {o : List Ident} (h : IsSubject l who f o) : IsAt l who 1073741824 o := by
  refine ⟨h.1, fun y => (h.2 y).trans ⟨?_, fun hy => reach_in (validLinks_asc hv) hf hy⟩⟩
  rintro (h1 | ⟨x, hx, _, h1⟩)
  · exact plain_mono hr hf h1
  · exact plain_mono hr (validLinks_mem hv x hx).2.1 h1
/-- Each link of t is the link of l at its place, perhaps with its identifiers in the other order. -/
def TurnedOf (l t : List Link) : Prop := t.length = l.length ∧ ∀ i (h : i < l.length) (h' : i < t.length), t[i].seq = l[i].seq ∧ t[i].rev = l[i].rev ∧ ((t[i].a = l[i].a ∧ t[i].b = l[i].b) ∨ (t[i].a = l[i].b ∧ t[i].b = l[i].a))
theorem TurnedOf.symm {l t : List Link} (h : TurnedOf l t) : TurnedOf t l := by
  refine ⟨h.1.symm, fun i hi hi' => ?_⟩
  obtain ⟨h1, h2, h3⟩ := h.2 i hi' hi
  refine ⟨h1.symm, h2.symm, ?_⟩
  rcases h3 with ⟨p, q⟩ | ⟨p, q⟩
  · exact .inl ⟨p.symm, q.symm⟩
  · exact .inr ⟨q.symm, p.symm⟩
theorem TurnedOf.rev {l t : List Link} (h : TurnedOf l t) (hr : ∀ x ∈ l, x.rev = false) : ∀ x ∈ t, x.rev = false := by
  intro x hx
  obtain ⟨i, hi, rfl⟩ := List.getElem_of_mem hx
  have hi' : i < l.length := by have := h.1; omega
  rw [(h.2 i hi' hi).2.1]
  exact hr _ (List.getElem_mem hi')
theorem TurnedOf.edge {l t : List Link} (h : TurnedOf l t) (hr : ∀ x ∈ l, x.rev = false) {s : Int} (u v : Ident) (he : EdgeAt l s u v) : EdgeAt t s u v := by
  obtain ⟨x, hx, hs, hj⟩ := (plain_edge hr).1 he
  obtain ⟨i, hi, rfl⟩ := List.getElem_of_mem hx
  have hi' : i < t.length := by have := h.1; omega
  obtain ⟨h1, _, h3⟩ := h.2 i hi hi'
  refine (plain_edge (h.rev hr)).2 ⟨t[i], List.getElem_mem hi', by omega, ?_⟩
  rcases h3 with ⟨p, q⟩ | ⟨p, q⟩ <;> rcases hj with ⟨m, n⟩ | ⟨m, n⟩
  · exact .inl ⟨p.trans m, q.trans n⟩
  · exact .inr ⟨q.trans m, p.trans n⟩
  · exact .inr ⟨q.trans m, p.trans n⟩
  · exact .inl ⟨p.trans m, q.trans n⟩
theorem TurnedOf.at_ {l t : List Link} (h : TurnedOf l t) (hr : ∀ x ∈ l, x.rev = false) {who : Ident} {s : Int} {o : List Ident} (ho : IsAt t who s o) : IsAt l who s o :=
  ⟨ho.1, fun y => (ho.2 y).trans ⟨reach_edges (h.symm.edge (h.rev hr)), reach_edges (h.edge hr)⟩⟩
theorem validFrom_of' : ∀ {last : Int} {l : List Link}, (∀ x ∈ l, last < x.seq ∧ x.seq ≤ 1073741824 ∧ validId x.a = true ∧ validId x.b = true ∧ x.a ≠ x.b) → l.Pairwise (fun x y => x.seq < y.seq) → validFrom last l = true
  | _, [], _, _ => rfl
  | last, x :: l, h, hp => by
    have hp' := List.pairwise_cons.1 hp
    obtain ⟨h1, h2, h3, h4, h5⟩ := h x (by simp)
    rw [validFrom, validFrom_of' (last := x.seq) (l := l) (fun y hy => ⟨hp'.1 y hy, (h y (by simp [hy])).2⟩) hp'.2]
    simp [linkOk, h1, h2, h3, h4, h5]
/-- The links of t are those of l, with revocations or not, turned or not. -/
def LikeOf (l t : List Link) : Prop := t.length = l.length ∧ ∀ i (h : i < l.length) (h' : i < t.length), t[i].seq = l[i].seq ∧ ((t[i].a = l[i].a ∧ t[i].b = l[i].b) ∨ (t[i].a = l[i].b ∧ t[i].b = l[i].a))
theorem LikeOf.valid {l t : List Link} (h : LikeOf l t) (hv : validLinks l = true) : validLinks t = true := by
  unfold validLinks
  have hl := validLinks_len hv
  rw [validFrom_of' (last := 0)]
  · have := h.1; simp; omega
  · intro x hx
    obtain ⟨i, hi, rfl⟩ := List.getElem_of_mem hx
    have hi' : i < l.length := by have := h.1; omega
    obtain ⟨h1, h3⟩ := h.2 i hi' hi
    obtain ⟨m1, m2, m3, m4, m5⟩ := validLinks_mem hv _ (List.getElem_mem hi')
    rw [h1]
    rcases h3 with ⟨p, q⟩ | ⟨p, q⟩
    · rw [p, q]; exact ⟨m1, m2, m3, m4, m5⟩
    · rw [p, q]; exact ⟨m1, m2, m4, m3, fun e => m5 e.symm⟩
  · rw [List.pairwise_iff_getElem]
    intro i j hi hj hij
    have hi' : i < l.length := by have := h.1; omega
    have hj' : j < l.length := by have := h.1; omega
    rw [(h.2 i hi' hi).1, (h.2 j hj' hj).1]
    exact List.pairwise_iff_getElem.1 (validLinks_asc hv) i j hi' hj' hij
end Go.Proofs.Ytoleifehijccmaa
