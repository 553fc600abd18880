/-
  Plain mathematics: the edges of the program's graph against the links in force of the document; being connected by indexes against being reached.
-/
import Derived.Test.YtoleifehijccmaaIndex
import Derived.Test.YtoleifehijccmaaReach
namespace Go.Proofs.Ytoleifehijccmaa
set_option linter.unusedVariables false

/-- The pair of indexes of an event, the smaller one first. -/
def pairOf (ns : List Ident) (x : Link) : Nat × Nat := (min (insK ns x.a) (insK ns x.b), max (insK ns x.a) (insK ns x.b))
/-- The last position at which an event is in force. -/
def endOf (ns : List Ident) (x : Link) (l : List Link) : Int :=
  match l.find? (fun y => pairOf ns y == pairOf ns x) with
  | some y => y.seq - 1
  | none => 9223372036854775807
def edgeOf (ns : List Ident) (x : Link) (l : List Link) : Edge := ⟨(pairOf ns x).1, (pairOf ns x).2, x.seq, endOf ns x l⟩
def edgesOf (ns : List Ident) : List Link → List Edge
  | [] => []
  | x :: l => if x.rev then edgesOf ns l else edgeOf ns x l :: edgesOf ns l

theorem edgesOf_rev {ns : List Ident} {ls : List Link} {m : Nat} (h : m < ls.length) (hr : ls[m].rev = true) : edgesOf ns (ls.drop m) = edgesOf ns (ls.drop (m + 1)) := by
  rw [List.drop_eq_getElem_cons h, edgesOf, if_pos hr]
theorem edgesOf_not {ns : List Ident} {ls : List Link} {m : Nat} (h : m < ls.length) (hr : ls[m].rev = false) : edgesOf ns (ls.drop m) = edgeOf ns ls[m] (ls.drop (m + 1)) :: edgesOf ns (ls.drop (m + 1)) := by
  rw [List.drop_eq_getElem_cons h, edgesOf, if_neg (by simp [hr])]
theorem edgesOf_len (ns : List Ident) : ∀ ls : List Link, (edgesOf ns ls).length ≤ ls.length
  | [] => by simp [edgesOf]
  | x :: l => by
    have := edgesOf_len ns l
    rw [edgesOf]
    split
    · simp; omega
    · simp; omega
theorem find_idx {ps : List Link} {f : Link → Nat × Nat} {p : Nat × Nat} : (∀ n : Nat, pairIdx (ps.map f) p = n → ∃ h : n < ps.length, ps.find? (fun y => f y == p) = some ps[n]) ∧ (pairIdx (ps.map f) p < 0 → ps.find? (fun y => f y == p) = none) := by
  unfold pairIdx
  constructor
  · intro n hn
    by_cases hm : p ∈ ps.map f
    · rw [if_pos hm] at hn
      have hn' : (ps.map f).idxOf p = n := by omega
      have h1 : n < ps.length := by have := List.idxOf_lt_length_of_mem hm; rw [hn'] at this; simpa using this
      refine ⟨h1, ?_⟩
      have h2 : (ps.map f)[(ps.map f).idxOf p]'(List.idxOf_lt_length_of_mem hm) = p := List.getElem_idxOf _
      rw [List.find?_eq_some_iff_getElem]
      refine ⟨?_, n, h1, rfl, fun j hj => ?_⟩
      · simp only [hn', List.getElem_map] at h2
        simp [h2]
      · have h3 := List.not_of_lt_findIdx (xs := ps.map f) (p := (· == p)) (i := j) (by
          have e : List.findIdx (fun x => x == p) (List.map f ps) = (ps.map f).idxOf p := rfl
          rw [e, hn']; exact hj)
        simpa using h3
    · rw [if_neg hm] at hn
      omega
  · intro h
    by_cases hm : p ∈ ps.map f
    · rw [if_pos hm] at h; omega
    · rw [List.find?_eq_none]
      intro y hy
      simp only [beq_iff_eq]
      intro e
      exact hm (List.mem_map.2 ⟨y, hy, e⟩)
/-- What the program reads off the index of the next event. -/
theorem endOf_some {ns : List Ident} {ls : List Link} {m n : Nat} (h : m < ls.length) (hn : pairIdx ((ls.map (pairOf ns)).drop (m + 1)) (pairOf ns ls[m]) = n) : ∃ h' : m + 1 + n < ls.length, endOf ns ls[m] (ls.drop (m + 1)) = ls[m + 1 + n].seq - 1 := by
  rw [← List.map_drop] at hn
  obtain ⟨h1, h2⟩ := find_idx.1 n hn
  have h3 : m + 1 + n < ls.length := by simp at h1; omega
  refine ⟨h3, ?_⟩
  unfold endOf
  rw [h2]
  simp
theorem endOf_none {ns : List Ident} {ls : List Link} {m : Nat} (h : m < ls.length) (hn : pairIdx ((ls.map (pairOf ns)).drop (m + 1)) (pairOf ns ls[m]) < 0) : endOf ns ls[m] (ls.drop (m + 1)) = 9223372036854775807 := by
  rw [← List.map_drop] at hn
  unfold endOf
  rw [find_idx.2 hn]

theorem mem_upTo {s : Int} {y : Link} : ∀ {l : List Link}, l.Pairwise (fun x y => x.seq < y.seq) → (y ∈ l.takeWhile (fun z => decide (z.seq ≤ s)) ↔ y ∈ l ∧ y.seq ≤ s)
  | [], _ => by simp
  | x :: l, h => by
    have h' := List.pairwise_cons.1 h
    by_cases hx : x.seq ≤ s
    · rw [List.takeWhile_cons_of_pos (by simpa using hx), List.mem_cons, List.mem_cons, mem_upTo h'.2]
      constructor
      · rintro (rfl | ⟨h1, h2⟩)
        · exact ⟨.inl rfl, hx⟩
        · exact ⟨.inr h1, h2⟩
      · rintro ⟨rfl | h1, h2⟩
        · exact .inl rfl
        · exact .inr ⟨h1, h2⟩
    · rw [List.takeWhile_cons_of_neg (by simpa using hx)]
      constructor
      · intro h; cases h
      · rintro ⟨h1, h2⟩
        rcases List.mem_cons.1 h1 with rfl | h1
        · exact absurd h2 hx
        · have := h'.1 y h1
          omega
theorem find_first {P : Link → Bool} {y : Link} : ∀ {l : List Link}, l.Pairwise (fun x y => x.seq < y.seq) → l.find? P = some y → y ∈ l ∧ P y = true ∧ ∀ z ∈ l, P z = true → y.seq ≤ z.seq
  | [], _, h => by simp at h
  | x :: l, hp, h => by
    have h' := List.pairwise_cons.1 hp
    by_cases hx : P x = true
    · rw [List.find?_cons_of_pos hx] at h
      injection h with h
      subst h
      refine ⟨by simp, hx, fun z hz _ => ?_⟩
      rcases List.mem_cons.1 hz with rfl | hz
      · exact Int.le_refl _
      · exact Int.le_of_lt (h'.1 z hz)
    · rw [List.find?_cons_of_neg hx] at h
      obtain ⟨h1, h2, h3⟩ := find_first h'.2 h
      refine ⟨by simp [h1], h2, fun z hz hz' => ?_⟩
      rcases List.mem_cons.1 hz with rfl | hz
      · exact absurd hz' hx
      · exact h3 z hz hz'

/-- The names of a graph: ascending, valid, with both ends of each event. -/
structure Names (ns : List Ident) (ls : List Link) : Prop where
  asc : Asc ns
  valid : AllValid ns
  ends : ∀ x ∈ ls, x.a ∈ ns ∧ x.b ∈ ns
theorem insK_inj {ns : List Ident} (ha : Asc ns) (hv : AllValid ns) {x y : Ident} (hx : x ∈ ns) (hy : y ∈ ns) (h : insK ns x = insK ns y) : x = y := by
  have h1 := (insK_mem ha hv hx).2
  have h2 := (insK_mem ha hv hy).2
  rw [h, h2] at h1
  injection h1 with h1
  exact h1.symm
theorem samePair_iff {ns : List Ident} (ha : Asc ns) (hv : AllValid ns) {x y : Link} (hx : x.a ∈ ns ∧ x.b ∈ ns) (hy : y.a ∈ ns ∧ y.b ∈ ns) : samePair y x = true ↔ pairOf ns y = pairOf ns x := by
  unfold samePair pairOf
  simp only [Bool.or_eq_true, Bool.and_eq_true, decide_eq_true_eq, Prod.mk.injEq]
  constructor
  · rintro (⟨h1, h2⟩ | ⟨h1, h2⟩)
    · rw [h1, h2]; exact ⟨rfl, rfl⟩
    · rw [h1, h2]; omega
  · intro h
    by_cases h1 : insK ns y.a = insK ns x.a
    · exact .inl ⟨insK_inj ha hv hy.1 hx.1 h1, insK_inj ha hv hy.2 hx.2 (by omega)⟩
    · exact .inr ⟨insK_inj ha hv hy.1 hx.2 (by omega), insK_inj ha hv hy.2 hx.1 (by omega)⟩
theorem mem_inForce {es : List Edge} {s : Int} {p : Nat × Nat} : p ∈ inForce es s ↔ ∃ e ∈ es, e.first ≤ s ∧ s ≤ e.last ∧ (e.a, e.b) = p := by
  unfold inForce
  simp only [List.mem_map, List.mem_filter, Bool.and_eq_true, decide_eq_true_eq]
  constructor
  · rintro ⟨e, ⟨h1, h2, h3⟩, h4⟩
    exact ⟨e, h1, h2, h3, h4⟩
  · rintro ⟨e, h1, h2, h3, h4⟩
    exact ⟨e, ⟨h1, h2, h3⟩, h4⟩
theorem head_inForce {ns : List Ident} (ha : Asc ns) (hv : AllValid ns) {x : Link} {l : List Link} (hx : x.a ∈ ns ∧ x.b ∈ ns) (hl : ∀ y ∈ l, y.a ∈ ns ∧ y.b ∈ ns) (hp : l.Pairwise (fun x y => x.seq < y.seq)) {s : Int} (hs : s ≤ 9223372036854775807) :
    directB (x :: l) x 0 s = true ↔ x.rev = false ∧ x.seq ≤ s ∧ s ≤ endOf ns x l := by
  unfold directB
  simp only [List.drop_succ_cons, List.drop_zero, Nat.zero_add, Bool.and_eq_true, decide_eq_true_eq, Bool.not_eq_true', List.any_eq_false, mem_upTo hp]
  have key : (∀ y, y ∈ l ∧ y.seq ≤ s → ¬ samePair y x = true) ↔ s ≤ endOf ns x l := by
    unfold endOf
    cases hf : l.find? (fun y => pairOf ns y == pairOf ns x) with
    | none =>
      rw [List.find?_eq_none] at hf
      refine ⟨fun _ => hs, fun _ y hy h => ?_⟩
      rw [samePair_iff ha hv hx (hl y hy.1)] at h
      exact hf y hy.1 (by simp [h])
    | some y =>
      obtain ⟨h1, h2, h3⟩ := find_first hp hf
      have h2' : pairOf ns y = pairOf ns x := by simpa using h2
      constructor
      · intro h
        have := h y
        rw [samePair_iff ha hv hx (hl y h1)] at this
        have h4 : ¬ y.seq ≤ s := fun h5 => this ⟨h1, h5⟩ h2'
        show s ≤ y.seq - 1
        omega
      · intro h z hz hzp
        have h : s ≤ y.seq - 1 := h
        rw [samePair_iff ha hv hx (hl z hz.1)] at hzp
        have := h3 z hz.1 (by simp [hzp])
        omega
  rw [key]
  constructor
  · rintro ⟨⟨h1, h2⟩, h3⟩; exact ⟨h2, h1, h3⟩
  · rintro ⟨h2, h1, h3⟩; exact ⟨⟨h1, h2⟩, h3⟩
theorem edges_inForce {ns : List Ident} (ha : Asc ns) (hv : AllValid ns) {s : Int} (hs : s ≤ 9223372036854775807) {p : Nat × Nat} : ∀ {l : List Link}, (∀ y ∈ l, y.a ∈ ns ∧ y.b ∈ ns) → l.Pairwise (fun x y => x.seq < y.seq) →
    (p ∈ inForce (edgesOf ns l) s ↔ ∃ i, ∃ h : i < l.length, directB l l[i] i s = true ∧ pairOf ns l[i] = p)
  | [], _, _ => by simp [edgesOf, mem_inForce]
  | x :: l, hl, hp => by
    have hp' := List.pairwise_cons.1 hp
    have hx := hl x (by simp)
    have hl' : ∀ y ∈ l, y.a ∈ ns ∧ y.b ∈ ns := fun y hy => hl y (by simp [hy])
    have ih := edges_inForce ha hv hs (p := p) hl' hp'.2
    have hh := head_inForce ha hv hx hl' hp'.2 hs
    have hsplit : (∃ i, ∃ h : i < (x :: l).length, directB (x :: l) (x :: l)[i] i s = true ∧ pairOf ns (x :: l)[i] = p) ↔ (directB (x :: l) x 0 s = true ∧ pairOf ns x = p) ∨ ∃ i, ∃ h : i < l.length, directB l l[i] i s = true ∧ pairOf ns l[i] = p := by
      constructor
      · rintro ⟨i, hi, h1, h2⟩
        cases i with
        | zero => exact .inl ⟨h1, h2⟩
        | succ i => exact .inr ⟨i, by simpa using hi, by simpa [directB] using h1, by simpa using h2⟩
      · rintro (⟨h1, h2⟩ | ⟨i, hi, h1, h2⟩)
        · exact ⟨0, by simp, h1, h2⟩
        · exact ⟨i + 1, by simpa using hi, by simpa [directB] using h1, by simpa using h2⟩
    rw [hsplit, ← ih, hh, edgesOf]
    cases hr : x.rev
    · rw [if_neg (by simp), mem_inForce, mem_inForce]
      constructor
      · rintro ⟨e, he, h1, h2, h3⟩
        rcases List.mem_cons.1 he with rfl | he
        · exact .inl ⟨⟨rfl, h1, h2⟩, h3⟩
        · exact .inr ⟨e, he, h1, h2, h3⟩
      · rintro (⟨⟨_, h1, h2⟩, h3⟩ | ⟨e, he, h1, h2, h3⟩)
        · exact ⟨edgeOf ns x l, by simp, h1, h2, h3⟩
        · exact ⟨e, by simp [he], h1, h2, h3⟩
    · rw [if_pos rfl]
      constructor
      · exact .inr
      · rintro (⟨⟨h, _⟩, _⟩ | h)
        · cases h
        · exact h
theorem edgesOf_range {ns : List Ident} (ha : Asc ns) (hv : AllValid ns) : ∀ {l : List Link}, (∀ y ∈ l, y.a ∈ ns ∧ y.b ∈ ns) → ∀ e ∈ edgesOf ns l, e.a < ns.length ∧ e.b < ns.length
  | [], _, e, he => by simp [edgesOf] at he
  | x :: l, hl, e, he => by
    have hx := hl x (by simp)
    have h1 := (insK_mem ha hv hx.1).1
    have h2 := (insK_mem ha hv hx.2).1
    have ih := edgesOf_range ha hv (l := l) (fun y hy => hl y (by simp [hy])) e
    rw [edgesOf] at he
    cases hr : x.rev
    · rw [hr, if_neg (by simp)] at he
      rcases List.mem_cons.1 he with rfl | he
      · simp [edgeOf, pairOf]; omega
      · exact ih he
    · rw [hr, if_pos rfl] at he
      exact ih he

/-- Being connected by indexes is being reached. -/
theorem conn_reach {ns : List Ident} {ls : List Link} (hn : Names ns ls) (hp : ls.Pairwise (fun x y => x.seq < y.seq)) {s : Int} (hs : s ≤ 9223372036854775807) {u : Ident} (hu : u ∈ ns) {i : Nat} (hi : i < ns.length) :
    Conn (inForce (edgesOf ns ls) s) (insK ns u) i ↔ Reach ls s u ns[i] := by
  have hE : ∀ p, p ∈ inForce (edgesOf ns ls) s ↔ ∃ i, ∃ h : i < ls.length, directB ls ls[i] i s = true ∧ pairOf ns ls[i] = p := fun p => edges_inForce hn.asc hn.valid hs hn.ends hp
  have hmem : ∀ v, Reach ls s u v → v ∈ ns := by
    intro v hv
    cases hv with
    | refl => exact hu
    | step _ e =>
      obtain ⟨j, hj, _, h⟩ := e
      have := hn.ends ls[j] (List.getElem_mem hj)
      rcases h with ⟨_, h⟩ | ⟨_, h⟩
      · rw [← h]; exact this.2
      · rw [← h]; exact this.1
  have step : ∀ j (hj : j < ls.length), directB ls ls[j] j s = true → ∀ k, (k = insK ns ls[j].a ∨ k = insK ns ls[j].b) → (∃ v, Reach ls s u v ∧ insK ns v = k) → Reach ls s u ls[j].a ∧ Reach ls s u ls[j].b := by
    rintro j hj hd k hk ⟨v, hv, e⟩
    have hm := hn.ends ls[j] (List.getElem_mem hj)
    have hvn := hmem v hv
    rcases hk with hk | hk
    · have e' : v = ls[j].a := insK_inj hn.asc hn.valid hvn hm.1 (by omega)
      rw [e'] at hv
      exact ⟨hv, .step hv ⟨j, hj, hd, .inl ⟨rfl, rfl⟩⟩⟩
    · have e' : v = ls[j].b := insK_inj hn.asc hn.valid hvn hm.2 (by omega)
      rw [e'] at hv
      exact ⟨.step hv ⟨j, hj, hd, .inr ⟨rfl, rfl⟩⟩, hv⟩
  have fwd : ∀ k, Conn (inForce (edgesOf ns ls) s) (insK ns u) k → ∃ v, Reach ls s u v ∧ insK ns v = k := by
    intro k hk
    induction hk with
    | refl => exact ⟨u, .refl, rfl⟩
    | @right a b _ hm ih =>
      obtain ⟨j, hj, hd, e⟩ := (hE _).1 hm
      unfold pairOf at e
      injection e with e1 e2
      obtain ⟨h1, h2⟩ := step j hj hd a (by omega) ih
      rcases Nat.le_total (insK ns ls[j].a) (insK ns ls[j].b) with hle | hle
      · exact ⟨_, h2, by omega⟩
      · exact ⟨_, h1, by omega⟩
    | @left a b _ hm ih =>
      obtain ⟨j, hj, hd, e⟩ := (hE _).1 hm
      unfold pairOf at e
      injection e with e1 e2
      obtain ⟨h1, h2⟩ := step j hj hd b (by omega) ih
      rcases Nat.le_total (insK ns ls[j].a) (insK ns ls[j].b) with hle | hle
      · exact ⟨_, h1, by omega⟩
      · exact ⟨_, h2, by omega⟩
  have bwd : ∀ v, Reach ls s u v → Conn (inForce (edgesOf ns ls) s) (insK ns u) (insK ns v) := by
    intro v hv
    induction hv with
    | refl => exact .refl
    | @step v z _ e ih =>
      obtain ⟨j, hj, hd, h⟩ := e
      have hm := (hE (pairOf ns ls[j])).2 ⟨j, hj, hd, rfl⟩
      unfold pairOf at hm
      rcases Nat.le_total (insK ns ls[j].a) (insK ns ls[j].b) with hle | hle
      · rw [Nat.min_eq_left hle, Nat.max_eq_right hle] at hm
        rcases h with ⟨h1, h2⟩ | ⟨h1, h2⟩
        · rw [h1, h2] at hm; exact .right ih hm
        · rw [h1, h2] at hm; exact .left ih hm
      · rw [Nat.min_eq_right hle, Nat.max_eq_left hle] at hm
        rcases h with ⟨h1, h2⟩ | ⟨h1, h2⟩
        · rw [h1, h2] at hm; exact .left ih hm
        · rw [h1, h2] at hm; exact .right ih hm
  have hself : insK ns ns[i] = i := insK_bound _ i (by omega) (fun k h hk => asc_get hn.asc h hi hk) (fun _ => by rw [cmpId_refl]; omega)
  constructor
  · intro h
    obtain ⟨v, hv, e⟩ := fwd i h
    have h1 := (insK_mem hn.asc hn.valid (hmem v hv)).2
    rw [e, List.getElem?_eq_getElem hi] at h1
    injection h1 with h1
    rw [h1]
    exact hv
  · intro h
    have := bwd _ h
    rw [hself] at this
    exact this
end Go.Proofs.Ytoleifehijccmaa
