/-
  Plain mathematics: a forest of parents; roots; halving a path and joining two trees.
-/
import Derived.Test.YtoleifehijccmaaBase
namespace Go.Proofs.Ytoleifehijccmaa
set_option linter.unusedVariables false

/-- In d steps from i to the root r. -/
inductive RootN (f : List Nat) : Nat → Nat → Nat → Prop where
  | here {i : Nat} : f[i]? = some i → RootN f i i 0
  | up {i p r d : Nat} : f[i]? = some p → p ≠ i → RootN f p r d → RootN f i r (d + 1)
def Root (f : List Nat) (i r : Nat) : Prop := ∃ d, RootN f i r d
def Forest (f : List Nat) : Prop := ∀ i, i < f.length → ∃ r, Root f i r

theorem RootN.lt {f : List Nat} {i r d : Nat} (h : RootN f i r d) : i < f.length := by
  cases h with
  | here h => exact (List.getElem?_eq_some_iff.1 h).1
  | up h _ _ => exact (List.getElem?_eq_some_iff.1 h).1
theorem RootN.isRoot {f : List Nat} {i r d : Nat} (h : RootN f i r d) : f[r]? = some r := by
  induction h with
  | here h => exact h
  | up _ _ _ ih => exact ih
theorem RootN.unique {f : List Nat} {i r d r' d' : Nat} (h : RootN f i r d) (h' : RootN f i r' d') : r = r' ∧ d = d' := by
  induction h generalizing r' d' with
  | here e =>
    cases h' with
    | here _ => exact ⟨rfl, rfl⟩
    | up e' hne _ => rw [e] at e'; injection e' with e'; exact absurd e'.symm hne
  | up e hne _ ih =>
    cases h' with
    | here e' => rw [e] at e'; injection e' with e'; exact absurd e' hne
    | up e' _ h2 =>
      rw [e] at e'
      injection e' with e'
      subst e'
      obtain ⟨h3, h4⟩ := ih h2
      exact ⟨h3, by omega⟩
theorem Root.unique {f : List Nat} {i r r' : Nat} (h : Root f i r) (h' : Root f i r') : r = r' := by
  obtain ⟨_, h⟩ := h
  obtain ⟨_, h'⟩ := h'
  exact (h.unique h').1
theorem Root.self {f : List Nat} {i r : Nat} (h : Root f i r) : Root f r r := by
  obtain ⟨_, h⟩ := h
  exact ⟨0, .here h.isRoot⟩
theorem Root.lt {f : List Nat} {i r : Nat} (h : Root f i r) : i < f.length ∧ r < f.length := by
  obtain ⟨_, h⟩ := h
  exact ⟨h.lt, (List.getElem?_eq_some_iff.1 h.isRoot).1⟩

/-- Halving at i: the same roots, no longer ways. -/
theorem RootN.halve {f : List Nat} {i p q : Nat} (hp : f[i]? = some p) (hpi : p ≠ i) (hq : f[p]? = some q) :
    ∀ {d j r : Nat}, RootN f j r d → ∃ d', d' ≤ d ∧ RootN (f.set i q) j r d' := by
  have hil : i < f.length := (List.getElem?_eq_some_iff.1 hp).1
  have hne : ∀ j, j ≠ i → (f.set i q)[j]? = f[j]? := fun j hj => List.getElem?_set_ne (fun e => hj e.symm)
  have hat : (f.set i q)[i]? = some q := by rw [List.getElem?_set_self hil]
  intro d
  induction d using Nat.strongRecOn with
  | ind d ih =>
    intro j r h
    by_cases hji : j = i
    · subst hji
      cases h with
      | here e => rw [hp] at e; injection e with e; exact absurd e hpi
      | up e hne' h2 =>
        rw [hp] at e
        injection e with e
        subst e
        cases h2 with
        | here e2 =>
          rw [hq] at e2
          injection e2 with e2
          subst e2
          exact ⟨1, by omega, .up hat (fun e => hpi e) (.here (by rw [hne _ hpi]; exact hq))⟩
        | up e2 hne2 h3 =>
          rw [hq] at e2
          injection e2 with e2
          subst e2
          rename_i d3
          have hqi : q ≠ j := by
            intro e
            subst e
            have h4 : RootN f q r (d3 + 1 + 1) := .up hp hpi (.up hq hne2 h3)
            have := (h4.unique h3).2
            omega
          obtain ⟨d', hd', h4⟩ := ih d3 (by omega) h3
          exact ⟨d' + 1, by omega, .up hat hqi h4⟩
    · cases h with
      | here e => exact ⟨0, by omega, .here (by rw [hne j hji]; exact e)⟩
      | up e hne' h2 =>
        rename_i p' d2
        obtain ⟨d', hd', h3⟩ := ih d2 (by omega) h2
        exact ⟨d' + 1, by omega, .up (by rw [hne j hji]; exact e) hne' h3⟩
/-- Two forests with the same roots. -/
def SameRoots (f f' : List Nat) : Prop := f'.length = f.length ∧ ∀ j r, Root f j r ↔ Root f' j r
theorem SameRoots.len {f f' : List Nat} (h : SameRoots f f') : f'.length = f.length := h.1
theorem SameRoots.refl (f : List Nat) : SameRoots f f := ⟨rfl, fun _ _ => Iff.rfl⟩
theorem SameRoots.trans {f g h : List Nat} (a : SameRoots f g) (b : SameRoots g h) : SameRoots f h := ⟨b.1.trans a.1, fun j r => (a.2 j r).trans (b.2 j r)⟩
theorem SameRoots.forest {f g : List Nat} (a : SameRoots f g) (h : Forest f) : Forest g := fun i hi => by
  obtain ⟨r, hr⟩ := h i (by rw [← a.1]; exact hi)
  exact ⟨r, (a.2 i r).1 hr⟩
theorem sameRoots_halve {f : List Nat} (hf : Forest f) {i p q : Nat} (hp : f[i]? = some p) (hpi : p ≠ i) (hq : f[p]? = some q) : SameRoots f (f.set i q) := by
  have fwd : ∀ j r, Root f j r → Root (f.set i q) j r := fun j r ⟨d, h⟩ => by
    obtain ⟨d', _, h'⟩ := RootN.halve hp hpi hq h
    exact ⟨d', h'⟩
  refine ⟨by simp, fun j r => ⟨fwd j r, fun h => ?_⟩⟩
  obtain ⟨r', hr'⟩ := hf j (by have := h.lt.1; simpa using this)
  have := (fwd j r' hr').unique h
  rw [← this]
  exact hr'
/-- Joining: the root a gets the parent b. -/
theorem RootN.join {f : List Nat} {a b : Nat} (ha : f[a]? = some a) (hb : f[b]? = some b) (hab : a ≠ b) :
    ∀ {j r d : Nat}, RootN f j r d → Root (f.set a b) j (if r = a then b else r) := by
  have hal : a < f.length := (List.getElem?_eq_some_iff.1 ha).1
  have hne : ∀ j, j ≠ a → (f.set a b)[j]? = f[j]? := fun j hj => List.getElem?_set_ne (fun e => hj e.symm)
  have hat : (f.set a b)[a]? = some b := by rw [List.getElem?_set_self hal]
  intro j r d h
  induction h with
  | @here i e =>
    by_cases hia : i = a
    · subst hia
      rw [if_pos rfl]
      exact ⟨1, .up hat (fun e => hab e.symm) (.here (by rw [hne b (fun e => hab e.symm)]; exact hb))⟩
    · rw [if_neg hia]
      exact ⟨0, .here (by rw [hne i hia]; exact e)⟩
  | @up i p r d e hne' _ ih =>
    have hia : i ≠ a := by
      intro e'
      subst e'
      rw [ha] at e
      injection e with e
      exact hne' e.symm
    obtain ⟨d', h'⟩ := ih
    exact ⟨d' + 1, .up (by rw [hne i hia]; exact e) hne' h'⟩

/-- Being connected by pairs. -/
inductive Conn (ps : List (Nat × Nat)) (i : Nat) : Nat → Prop where
  | refl : Conn ps i i
  | right {a b : Nat} : Conn ps i a → (a, b) ∈ ps → Conn ps i b
  | left {a b : Nat} : Conn ps i b → (a, b) ∈ ps → Conn ps i a
theorem Conn.trans {ps : List (Nat × Nat)} {i j k : Nat} (h : Conn ps i j) (h' : Conn ps j k) : Conn ps i k := by
  induction h' with
  | refl => exact h
  | right _ hm ih => exact .right ih hm
  | left _ hm ih => exact .left ih hm
theorem Conn.symm {ps : List (Nat × Nat)} {i j : Nat} (h : Conn ps i j) : Conn ps j i := by
  induction h with
  | refl => exact .refl
  | right _ hm ih => exact (Conn.left .refl hm).trans ih
  | left _ hm ih => exact (Conn.right .refl hm).trans ih
theorem Conn.mono {ps qs : List (Nat × Nat)} {i j : Nat} (h : Conn ps i j) (hs : ∀ x ∈ ps, x ∈ qs) : Conn qs i j := by
  induction h with
  | refl => exact .refl
  | right _ hm ih => exact .right ih (hs _ hm)
  | left _ hm ih => exact .left ih (hs _ hm)
/-- The forest f stands for the components of the pairs ps. -/
structure Stands (f : List Nat) (n : Nat) (ps : List (Nat × Nat)) : Prop where
  len : f.length = n
  forest : Forest f
  inr : ∀ x ∈ ps, x.1 < n ∧ x.2 < n
  conn : ∀ i j ri rj, Root f i ri → Root f j rj → (ri = rj ↔ Conn ps i j)
theorem Stands.same {f f' : List Nat} {n : Nat} {ps : List (Nat × Nat)} (h : Stands f n ps) (hs : SameRoots f f') : Stands f' n ps :=
  ⟨hs.1.trans h.len, hs.forest h.forest, h.inr, fun i j ri rj h1 h2 => h.conn i j ri rj ((hs.2 _ _).2 h1) ((hs.2 _ _).2 h2)⟩
theorem Stands.start (n : Nat) : Stands (List.range n) n [] := by
  have h0 : ∀ i, i < n → (List.range n)[i]? = some i := fun i hi => by rw [List.getElem?_range hi]
  refine ⟨by simp, fun i hi => ⟨i, 0, .here (h0 i (by simpa using hi))⟩, (fun x hx => by cases hx), fun i j ri rj h1 h2 => ?_⟩
  have e1 := h1.unique ⟨0, .here (h0 i (by simpa using h1.lt.1))⟩
  have e2 := h2.unique ⟨0, .here (h0 j (by simpa using h2.lt.1))⟩
  rw [e1, e2]
  constructor
  · rintro rfl; exact .refl
  · intro h
    have : ∀ k, Conn [] i k → i = k := by
      intro k hk
      induction hk with
      | refl => rfl
      | right _ hm _ => cases hm
      | left _ hm _ => cases hm
    exact this j h
theorem Stands.join {f : List Nat} {n : Nat} {ps : List (Nat × Nat)} (h : Stands f n ps) {a b ra rb : Nat} (ha : Root f a ra) (hb : Root f b rb) : Stands (f.set ra rb) n (ps ++ [(a, b)]) := by
  have hra : f[ra]? = some ra := by obtain ⟨_, h⟩ := ha; exact h.isRoot
  have hrb : f[rb]? = some rb := by obtain ⟨_, h⟩ := hb; exact h.isRoot
  have hal := ha.lt.1
  have hbl := hb.lt.1
  rw [h.len] at hal hbl
  have hinr : ∀ x ∈ ps ++ [(a, b)], x.1 < n ∧ x.2 < n := fun x hx => by
    rcases List.mem_append.1 hx with hx | hx
    · exact h.inr x hx
    · simp at hx; subst hx; exact ⟨hal, hbl⟩
  have hsub : ∀ x ∈ ps, x ∈ ps ++ [(a, b)] := fun x hx => List.mem_append_left _ hx
  have hnew : (a, b) ∈ ps ++ [(a, b)] := List.mem_append_right _ (by simp)
  -- new roots
  have newRoot : ∀ j r, Root f j r → Root (f.set ra rb) j (if r = ra then rb else r) := by
    intro j r ⟨d, hd⟩
    by_cases e : ra = rb
    · subst e
      have e1 : f.set ra ra = f := by
        have hlt : ra < f.length := (List.getElem?_eq_some_iff.1 hra).1
        apply List.ext_getElem?
        intro k
        by_cases hk : k = ra
        · subst hk; rw [List.getElem?_set_self hlt, hra]
        · rw [List.getElem?_set_ne (fun e => hk e.symm)]
      rw [e1]
      by_cases e2 : r = ra
      · rw [if_pos e2, ← e2]; exact ⟨d, hd⟩
      · rw [if_neg e2]; exact ⟨d, hd⟩
    · exact RootN.join hra hrb e hd
  have hforest : Forest (f.set ra rb) := fun i hi => by
    obtain ⟨r, hr⟩ := h.forest i (by simpa using hi)
    exact ⟨_, newRoot i r hr⟩
  have hconn : ∀ i r, Root f i r → ∀ k, Conn (ps ++ [(a, b)]) i k → ∃ rk, Root f k rk ∧ (if r = ra then rb else r) = (if rk = ra then rb else rk) := by
    intro i r hr k hk
    have grb : (if rb = ra then rb else rb) = rb := by simp
    have gra : (if ra = ra then rb else ra) = rb := by simp
    induction hk with
    | refl => exact ⟨r, hr, rfl⟩
    | @right x y _ hm ih =>
      obtain ⟨rx, hx, e⟩ := ih
      rcases List.mem_append.1 hm with hm' | hm'
      · obtain ⟨ry, hy⟩ := h.forest y (by rw [h.len]; exact (h.inr _ hm').2)
        have e2 := (h.conn x y rx ry hx hy).2 (.right .refl hm')
        exact ⟨ry, hy, by rw [e, e2]⟩
      · simp at hm'
        obtain ⟨rfl, rfl⟩ := hm'
        refine ⟨rb, hb, ?_⟩
        rw [e, hx.unique ha, gra, grb]
    | @left x y _ hm ih =>
      obtain ⟨ry, hy, e⟩ := ih
      rcases List.mem_append.1 hm with hm' | hm'
      · obtain ⟨rx, hx⟩ := h.forest x (by rw [h.len]; exact (h.inr _ hm').1)
        have e2 := (h.conn x y rx ry hx hy).2 (.right .refl hm')
        exact ⟨rx, hx, by rw [e, e2]⟩
      · simp at hm'
        obtain ⟨rfl, rfl⟩ := hm'
        refine ⟨ra, ha, ?_⟩
        rw [e, hy.unique hb, gra, grb]
  refine ⟨by simpa using h.len, hforest, hinr, fun i j si sj hi hj => ?_⟩
  have hil : i < n := by have := hi.lt.1; rw [List.length_set, h.len] at this; exact this
  have hjl : j < n := by have := hj.lt.1; rw [List.length_set, h.len] at this; exact this
  obtain ⟨ri, hri⟩ := h.forest i (by rw [h.len]; exact hil)
  obtain ⟨rj, hrj⟩ := h.forest j (by rw [h.len]; exact hjl)
  rw [hi.unique (newRoot i ri hri), hj.unique (newRoot j rj hrj)]
  constructor
  · intro e
    have toA : ∀ k rk, Root f k rk → rk = ra → Conn (ps ++ [(a, b)]) k b := fun k rk hk ek =>
      Conn.right (((h.conn k a rk ra hk ha).1 ek).mono hsub) hnew
    have toB : ∀ k rk, Root f k rk → rk = rb → Conn (ps ++ [(a, b)]) k b := fun k rk hk ek =>
      ((h.conn k b rk rb hk hb).1 ek).mono hsub
    by_cases e1 : ri = ra
    · rw [if_pos e1] at e
      by_cases e2 : rj = ra
      · exact (toA i ri hri e1).trans (toA j rj hrj e2).symm
      · rw [if_neg e2] at e
        exact (toA i ri hri e1).trans (toB j rj hrj e.symm).symm
    · rw [if_neg e1] at e
      by_cases e2 : rj = ra
      · rw [if_pos e2] at e
        exact (toB i ri hri e).trans (toA j rj hrj e2).symm
      · rw [if_neg e2] at e
        exact ((h.conn i j ri rj hri hrj).1 e).mono hsub
  · intro hc
    obtain ⟨rk, hk, e⟩ := hconn i ri hri j hc
    rw [e, hk.unique hrj]
end Go.Proofs.Ytoleifehijccmaa
