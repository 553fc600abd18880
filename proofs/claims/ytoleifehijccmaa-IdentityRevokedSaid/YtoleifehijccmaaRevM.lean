/-
  Plain mathematics for IdentityRevoked: a revocation behind all events leaves the links of the other pairs.
-/
import Derived.Test.YtoleifehijccmaaEquiv
namespace Go.Proofs.Ytoleifehijccmaa
set_option linter.unusedVariables false

def Joins (x : Link) (u v : Ident) : Prop := (x.a = u ∧ x.b = v) ∨ (x.b = u ∧ x.a = v)
theorem tw_all {s : Int} : ∀ (m : List Link), (∀ y ∈ m, y.seq ≤ s) → m.takeWhile (fun y => decide (y.seq ≤ s)) = m
  | [], _ => rfl
  | y :: m, h => by
    rw [List.takeWhile_cons_of_pos (by simpa using h y (by simp)), tw_all m (fun z hz => h z (by simp [hz]))]
theorem edge_all {l : List Link} {s : Int} (hs : ∀ x ∈ l, x.seq ≤ s) {u v : Ident} : EdgeAt l s u v ↔ ∃ pre x post, l = pre ++ x :: post ∧ x.rev = false ∧ (∀ y ∈ post, samePair y x = false) ∧ Joins x u v := by
  constructor
  · rintro ⟨i, hi, hd, hj⟩
    refine ⟨l.take i, l[i], l.drop (i + 1), ?_, ?_⟩
    · conv => lhs; rw [← List.take_append_drop i l]
      rw [List.drop_eq_getElem_cons hi]
    · unfold directB at hd
      rw [tw_all _ (fun y hy => hs y (List.mem_of_mem_drop hy))] at hd
      simp only [Bool.and_eq_true, Bool.not_eq_true', List.any_eq_false] at hd
      exact ⟨hd.1.2, fun y hy => by simpa using hd.2 y hy, hj⟩
  · rintro ⟨pre, x, post, rfl, hr, hp, hj⟩
    have e : (pre ++ x :: post)[pre.length]'(by simp) = x := by simp
    have ed : (pre ++ x :: post).drop (pre.length + 1) = post := by simp
    refine ⟨pre.length, by simp, ?_, by rw [e]; exact hj⟩
    unfold directB
    rw [e, ed, tw_all _ (fun y hy => hs y (by simp [hy])), hr]
    have h1 := hs x (by simp)
    have h2 : post.any (fun y => samePair y x) = false := by
      rw [List.any_eq_false]
      intro y hy
      simp [hp y hy]
    simp [h1, h2]
theorem pair_iff {x y : Link} : samePair x y = true ↔ ((x.a = y.a ∧ x.b = y.b) ∨ (x.a = y.b ∧ x.b = y.a)) := by
  simp [samePair]
theorem pair_comm (x y : Link) : samePair x y = samePair y x := by
  rw [Bool.eq_iff_iff, pair_iff, pair_iff]
  constructor <;> rintro (⟨h1, h2⟩ | ⟨h1, h2⟩) <;> simp [h1, h2]
theorem pair_other {x y c : Link} (h1 : samePair y c = true) (h2 : samePair x c = false) : samePair y x = false := by
  cases h : samePair y x
  · rfl
  · rw [pair_comm] at h
    rw [pair_iff] at h h1
    have : samePair x c = true := by
      rw [pair_iff]
      rcases h with ⟨a, b⟩ | ⟨a, b⟩ <;> rcases h1 with ⟨p, q⟩ | ⟨p, q⟩ <;> simp [a, b, p, q]
    rw [h2] at this
    cases this
/-- The events of the other pairs. -/
def otherPairs (l : List Link) (c : Link) : List Link := l.filter (fun x => !samePair x c)
theorem revoked_edge {l : List Link} {c : Link} {s : Int} (hs : ∀ x ∈ l, x.seq ≤ s) (hc : c.seq ≤ s) (hcr : c.rev = true) {u v : Ident} : EdgeAt (l ++ [c]) s u v ↔ EdgeAt (otherPairs l c) s u v := by
  rw [edge_all (fun x hx => by rcases List.mem_append.1 hx with h | h; exact hs x h; rw [List.mem_singleton.1 h]; exact hc), edge_all (l := otherPairs l c) (fun x hx => hs x (List.mem_filter.1 hx).1)]
  constructor
  · rintro ⟨pre, x, post, e, hr, hp, hj⟩
    rcases List.eq_nil_or_concat post with rfl | ⟨post', z, rfl⟩
    · have := List.append_inj' e rfl
      have h2 : c = x := by simpa using this.2
      rw [← h2, hcr] at hr
      cases hr
    · rw [List.concat_eq_append] at e hp
      have e' : l ++ [c] = (pre ++ x :: post') ++ [z] := by rw [e]; simp
      obtain ⟨rfl, h2⟩ := List.append_inj' e' rfl
      obtain rfl : c = z := by simpa using h2
      have hcx : samePair x c = false := by rw [pair_comm]; exact hp c (by simp)
      refine ⟨pre.filter (fun x => !samePair x c), x, post'.filter (fun x => !samePair x c), ?_, hr, fun y hy => hp y (by simp [(List.mem_filter.1 hy).1]), hj⟩
      unfold otherPairs
      rw [List.filter_append, List.filter_cons_of_pos (by simp [hcx])]
  · rintro ⟨pre, x, post, e, hr, hp, hj⟩
    unfold otherPairs at e
    obtain ⟨ps, qs, rfl, _, h2⟩ := List.filter_eq_append_iff.1 e
    obtain ⟨l1, l2, rfl, h3, h4, h5⟩ := List.filter_eq_cons_iff.1 h2
    have hxc : samePair x c = false := by simpa using h4
    refine ⟨ps ++ l1, x, l2 ++ [c], by simp, hr, fun y hy => ?_, hj⟩
    rcases List.mem_append.1 hy with hy | hy
    · cases hyc : samePair y c
      · exact hp y (by rw [← h5]; exact List.mem_filter.2 ⟨hy, by simp [hyc]⟩)
      · exact pair_other hyc hxc
    · rw [List.mem_singleton.1 hy, pair_comm]
      exact hxc
theorem reach_of_edges {l l' : List Link} {s : Int} {u v : Ident} (h : ∀ u v, EdgeAt l s u v → EdgeAt l' s u v) (hr : Reach l s u v) : Reach l' s u v := by
  induction hr with
  | refl => exact .refl
  | step _ e ih => exact .step ih (h _ _ e)
theorem validFrom_of : ∀ {last : Int} {l : List Link}, (∀ x ∈ l, last < x.seq ∧ x.seq ≤ 1073741824 ∧ validId x.a = true ∧ validId x.b = true ∧ x.a ≠ x.b) → l.Pairwise (fun x y => x.seq < y.seq) → validFrom last l = true
  | _, [], _, _ => rfl
  | last, x :: l, h, hp => by
    have hp' := List.pairwise_cons.1 hp
    obtain ⟨h1, h2, h3, h4, h5⟩ := h x (by simp)
    rw [validFrom, validFrom_of (last := x.seq) (l := l) (fun y hy => ⟨hp'.1 y hy, (h y (by simp [hy])).2⟩) hp'.2]
    simp [linkOk, h1, h2, h3, h4, h5]
theorem last_le {l : List Link} (hv : validLinks l = true) : ∀ x ∈ l, x.seq ≤ lastOf 0 l := by
  intro x hx
  obtain ⟨i, hi, rfl⟩ := List.getElem_of_mem hx
  have e : lastOf 0 l = (l[l.length - 1]'(by omega)).seq := by
    have := lastOf_take l (l.length - 1) (by omega)
    rwa [List.take_of_length_le (by omega)] at this
  rw [e]
  rcases Nat.lt_or_ge i (l.length - 1) with h | h
  · have := List.pairwise_iff_getElem.1 (validLinks_asc hv) i (l.length - 1) hi (by omega) h
    omega
  · have : i = l.length - 1 := by omega
    subst this
    exact Int.le_refl _
theorem last_nonneg {l : List Link} (hv : validLinks l = true) : 0 ≤ lastOf 0 l := by
  rcases Nat.eq_zero_or_pos l.length with h | h
  · rw [List.length_eq_zero_iff.1 h]; exact Int.le_refl _
  · have h1 := last_le hv l[0] (List.getElem_mem h)
    have h2 := (validLinks_mem hv l[0] (List.getElem_mem h)).1
    omega
theorem last_get {l : List Link} (h : 0 < l.length) : (l[l.length - 1]'(by omega)).seq = lastOf 0 l := by
  have := lastOf_take l (l.length - 1) (by omega)
  rw [List.take_of_length_le (by omega)] at this
  exact this.symm
theorem valid_cut {l : List Link} (hv : validLinks l = true) (hl : l.length ≤ 60) (hs : lastOf 0 l ≤ 1000000) {a b : Ident} (ha : validId a = true) (hb : validId b = true) (hne : a ≠ b) : validLinks (l ++ [⟨a, b, lastOf 0 l + 1, true⟩]) = true := by
  have h1 : validFrom 0 l = true := by simp only [validLinks, Bool.and_eq_true] at hv; exact hv.2
  have h2 : lastOf 0 l < lastOf 0 l + 1 := by omega
  have h3 : lastOf 0 l + 1 ≤ 1073741824 := by omega
  have h4 : l.length + 1 ≤ 64 := by omega
  unfold validLinks
  rw [validFrom_snoc, h1]
  simp [linkOk, h2, h3, ha, hb, hne, h4]
theorem valid_rest {l : List Link} (hv : validLinks l = true) (c : Link) : validLinks (otherPairs l c) = true := by
  unfold validLinks
  rw [validFrom_of (last := 0) (l := otherPairs l c) (fun x hx => validLinks_mem hv x (List.mem_filter.1 hx).1) (List.Pairwise.filter _ (validLinks_asc hv))]
  have h1 := validLinks_len hv
  have h2 : (otherPairs l c).length ≤ l.length := List.length_filter_le _ _
  simp; omega
theorem revoked_linked {l : List Link} (hv : validLinks l = true) (hl : l.length ≤ 60) (hs : lastOf 0 l ≤ 1000000) {a b x y : Ident} (ha : validId a = true) (hb : validId b = true) (hne : a ≠ b) (c : Link) (hc : c = ⟨a, b, lastOf 0 l + 1, true⟩) :
    linkedB (otherPairs l c) x y (lastOf 0 l + 1) = linkedB (l ++ [c]) x y (lastOf 0 l + 1) := by
  have h1 : ∀ z ∈ l, z.seq ≤ lastOf 0 l + 1 := fun z hz => by have := last_le hv z hz; omega
  have hcs : c.seq ≤ lastOf 0 l + 1 := by rw [hc]; exact Int.le_refl _
  have hcr : c.rev = true := by rw [hc]
  have hvc : validLinks (l ++ [c]) = true := by rw [hc]; exact valid_cut hv hl hs ha hb hne
  rw [Bool.eq_iff_iff, linkedB_iff, linkedB_iff]
  constructor
  · rintro ⟨_, k1, k2, k3⟩
    exact ⟨hvc, k1, k2, reach_of_edges (fun u v e => (revoked_edge h1 hcs hcr).2 e) k3⟩
  · rintro ⟨_, k1, k2, k3⟩
    exact ⟨valid_rest hv c, k1, k2, reach_of_edges (fun u v e => (revoked_edge h1 hcs hcr).1 e) k3⟩
theorem other_step {l : List Link} {c : Link} {m : Nat} (hm : m < l.length) : otherPairs (l.take (m + 1)) c = if samePair l[m] c then otherPairs (l.take m) c else otherPairs (l.take m) c ++ [l[m]] := by
  unfold otherPairs
  rw [List.take_succ_eq_append_getElem hm, List.filter_append]
  split
  · rename_i h; rw [List.filter_cons_of_neg (by simp [h])]; simp
  · rename_i h; rw [List.filter_cons_of_pos (by simpa using h)]; simp
end Go.Proofs.Ytoleifehijccmaa
