/-
  Slices of structs that the call itself made: what append makes of them, said of lists. Plain laws, no program.
-/
import Derived.Test.YtoleifehijccmaaBase
import Derived.Maps.AppendAt
import Derived.Deep.AppendLies
import Derived.Deep.RegionLaw
import Derived.OwnWalk
import Derived.Laws.OwnMore
namespace Go.Proofs.Ytoleifehijccmaa
set_option linter.unusedVariables false
open Go.RowKit

theorem flat_length {α : Type} {enc : α → List Value} {k : Nat} (hk : ∀ x, (enc x).length = k) : ∀ l : List α, (l.flatMap enc).length = l.length * k
  | [] => by simp
  | x :: l => by rw [List.flatMap_cons, List.length_append, hk, flat_length hk l, List.length_cons, Nat.add_mul, Nat.one_mul, Nat.add_comm]
theorem flat_get {α : Type} {enc : α → List Value} {k : Nat} (hk : ∀ x, (enc x).length = k) : ∀ (l : List α) (i : Nat) (h : i < l.length) (j : Nat) (u : Value), (enc l[i])[j]? = some u → (l.flatMap enc)[i * k + j]? = some u
  | x :: l, 0, _, j, u, hu => by
    have hj : j < (enc x).length := (List.getElem?_eq_some_iff.1 hu).1
    rw [List.flatMap_cons, Nat.zero_mul, Nat.zero_add, List.getElem?_append_left hj]
    exact hu
  | x :: l, i + 1, h, j, u, hu => by
    rw [List.flatMap_cons, Nat.add_mul, Nat.one_mul, List.getElem?_append_right (by rw [hk]; omega), hk]
    have := flat_get hk l i (by simpa using h) j u (by simpa using hu)
    rw [← this]
    congr 1
    omega
/-- The cells of a list, found by their place in the whole. -/
theorem flat_at {α : Type} {enc : α → List Value} {k : Nat} (hk : ∀ x, (enc x).length = k) : ∀ (l : List α) (n : Nat) (u : Value), (l.flatMap enc)[n]? = some u → ∃ i, ∃ h : i < l.length, ∃ j, n = i * k + j ∧ (enc l[i])[j]? = some u
  | [], n, u, hu => by simp at hu
  | x :: l, n, u, hu => by
    rw [List.flatMap_cons] at hu
    rcases Nat.lt_or_ge n (enc x).length with h | h
    · rw [List.getElem?_append_left h] at hu
      exact ⟨0, by simp, n, by simp, by simpa using hu⟩
    · rw [List.getElem?_append_right h] at hu
      obtain ⟨i, hi, j, e, hj⟩ := flat_at hk l _ u hu
      rw [hk] at e h
      exact ⟨i + 1, by simpa using hi, j, by rw [Nat.add_mul, Nat.one_mul]; omega, by simpa using hj⟩

/-- The value v is a slice of the call's own (blocks from base on) that holds the list l. -/
def Owns {α : Type} (w : World) (base : Nat) (e : TypeId) (enc : α → List Value) (k : Nat) (v : Value) (l : List α) : Prop :=
  w.ownsRow base e k v l.length (l.flatMap enc)
section
variable {α : Type} {w w' : World} {base : Nat} {e : TypeId} {enc : α → List Value} {k : Nat} {v : Value} {l : List α}
theorem Owns.nil : Owns w base e enc k (.slice none 0 0) ([] : List α) := World.ownsRow_nil _ _ _ _
theorem Owns.form (h : Owns w base e enc k v l) : ∃ A c, v = .slice A l.length c ∧ l.length ≤ c ∧ (∀ a, A = some a → base ≤ a.block ∧ a.block < w.heap.size) := by
  rcases h.2 with ⟨rfl, h0⟩ | ⟨g, cap, cur, rfl, hb, hg, hn, _⟩
  · exact ⟨none, 0, by rw [h0], by omega, fun a h => by cases h⟩
  · refine ⟨_, cap, rfl, hn, fun a h => ?_⟩
    injection h with h
    subst h
    refine ⟨hb, ?_⟩
    rcases Nat.lt_or_ge g w.heap.size with hlt | hge
    · exact hlt
    · rw [Array.getElem?_eq_none hge] at hg; cases hg
theorem Owns.slice (hk : ∀ x, (enc x).length = k) (h : Owns w base e enc k v l) : ∃ A c, v = .slice A l.length c ∧ l.length ≤ c ∧ SliceIs w w.heap.size enc k A l ∧ (∀ a, A = some a → base ≤ a.block ∧ a.block < w.heap.size) := by
  obtain ⟨A, c, hv, hc, hA⟩ := h.form
  refine ⟨A, c, hv, hc, fun hl => ?_, hA⟩
  subst hv
  rcases h.2 with ⟨h1, h0⟩ | ⟨g, cap, cur, hv, hb, hg, hn, hm, hs, ht⟩
  · injection h1; omega
  · injection hv with hv1 hv2 hv3
    subst hv1
    refine ⟨g, 0, rfl, (hA _ rfl).2, fun i hi j u hu => ?_⟩
    have h1 := flat_get hk l i hi j u hu
    rw [← ht] at h1
    rw [Nat.zero_add]
    have h2 : cur.toList[i * k + j]? = some u := by
      rw [List.getElem?_take] at h1
      split at h1
      · exact h1
      · cases h1
    rw [World.cell?, hg]
    simpa using h2
theorem Owns.row (h : Owns w base e enc k v l) : ∀ g, v.ownBlock = some g → base ≤ g := by
  intro g hg
  obtain ⟨A, c, rfl, _, hA⟩ := h.form
  cases A with
  | none => simp [Value.ownBlock] at hg
  | some a =>
    have : a.block = g := by simpa [Value.ownBlock] using hg
    rw [← this]
    exact (hA a rfl).1
theorem Owns.alloc (h : Owns w base e enc k v l) (o : Obj) : Owns (w.alloc o) base e enc k v l := World.ownsRow.alloc h o
theorem Owns.drew (h : Owns w base e enc k v l) : Owns w.drew base e enc k v l := h
theorem Owns.drewN (h : Owns w base e enc k v l) (n : Nat) : Owns (w.drewN n) base e enc k v l := h
theorem Owns.below (h : Owns w base e enc k v l) {B : Nat} (hb : Below B w w') (hB : w.heap.size ≤ B) : Owns w' base e enc k v l := by
  refine ⟨h.1, ?_⟩
  rcases h.2 with h1 | ⟨g, cap, cur, hv, hbs, hg, hr⟩
  · exact .inl h1
  · refine .inr ⟨g, cap, cur, hv, hbs, ?_, hr⟩
    have hlt : g < w.heap.size := by
      rcases Nat.lt_or_ge g w.heap.size with hlt | hge
      · exact hlt
      · rw [Array.getElem?_eq_none hge] at hg; cases hg
    rw [hb.block g (by omega)]
    exact hg
theorem Owns.mono (h : Owns w base e enc k v l) {b' : Nat} (hb : b' ≤ base) : Owns w b' e enc k v l := by
  refine ⟨h.1, ?_⟩
  rcases h.2 with h1 | ⟨g, cap, cur, hv, hbs, hr⟩
  · exact .inl h1
  · exact .inr ⟨g, cap, cur, hv, by omega, hr⟩
end

/-- append, onto a slice of the call's own, whatever is appended (nil, empty, or cut). -/
theorem run_append_list {P : Program} {α : Type} (w : World) (t ty e : TypeId) (i : TypeInfo) (z : Value) (enc : α → List Value) (k bytes : Nat) (ht : P.underlying t = some (.slice e)) (hi : P.info? e = some i) (hz : i.zero = some z)
    (hsize : i.size = k) (hby : i.bytes = bytes) (hzs : z.cells.size = k) (hsz : 0 < k) (hk : ∀ x, (enc x).length = k) (h1 : ∀ x, ∀ u ∈ enc x, u.oneCell' = true)
    (base : Nat) (v : Value) (l : List α) (hown : Owns w base e enc k v l) (A : Option Addr) (m c : Nat) (l' : List α) (hm : m = l'.length) (hr : SliceIs w w.heap.size enc k A l')
    (hlen : (l.length + l'.length) * bytes ≤ 140737488355328) (h63 : l.length + l'.length ≤ maxLen) (hbase : base ≤ w.heap.size) :
    ∃ v' w', (Builtin.append_ #[t, t] ty #[v, .slice A m c]).run P w = .ok v' w' ∧ Owns w' base e enc k v' (l ++ l') ∧ w.grownBy w' v.ownBlock ∧ (v'.ownBlock = v.ownBlock ∨ v'.ownBlock = some w.heap.size) := by
  subst hm
  rcases A with _ | ad
  · have h0 : l' = [] := by
      rcases Nat.eq_zero_or_pos l'.length with h0 | h0
      · exact List.eq_nil_of_length_eq_zero h0
      · obtain ⟨b, o, h, _⟩ := hr h0
        cases h
    subst h0
    refine ⟨v, w, ?_, by simpa [Owns] using hown, World.grownBy.refl w _, .inl rfl⟩
    rcases hown.2 with ⟨rfl, h2⟩ | ⟨g, cap, cur, rfl, _, _, hnc, _⟩
    · simp [Builtin.append_, run_underlying ht, sizeOf, typeInfo, hi, Builtin.lenOf, Builtin.firstCells]
    · simp [Builtin.append_, run_underlying ht, sizeOf, typeInfo, hi, Builtin.lenOf, Builtin.firstCells, hnc, storeCells]
  · obtain ⟨v', w', hrun, h2, h3, _, h5⟩ := run_append_own_at (P := P) w base t ty e i z k bytes ht hi hz hsize hby hzs hsz v l.length _ hown ad l'.length c (l'.flatMap enc) (flat_length hk l')
      (fun j u hu => by
        obtain ⟨i', hi', j', e', hj'⟩ := flat_at hk l' j u hu
        obtain ⟨b, o, hA, hb, hc⟩ := hr (by omega)
        injection hA with hA
        subst hA
        have := hc i' hi' j' u hj'
        rw [← e'] at this
        unfold Addr.add
        split
        · rename_i hj0; rw [hj0] at this; exact this
        · exact this)
      (fun u hu => by rw [List.mem_flatMap] at hu; obtain ⟨x, _, hx⟩ := hu; exact h1 x u hx) h63 hlen hbase
    exact ⟨v', w', hrun, by simpa [Owns] using h2, h3, h5⟩

theorem wp_append_list {P : Program} {α : Type} {o : Oper} {a : Act} {K : Act → World → Prop} {Q : Exit → Act → World → Prop} (w : World) (s x : Operand) (t : TypeId) (ho : o.op = .call { callee := .builtin .append, args := #[s, x], argTypes := #[t, t] })
    (e : TypeId) (i : TypeInfo) (z : Value) (enc : α → List Value) (k bytes : Nat) (ht : P.underlying t = some (.slice e)) (hi : P.info? e = some i) (hz : i.zero = some z)
    (hsize : i.size = k) (hby : i.bytes = bytes) (hzs : z.cells.size = k) (hsz : 0 < k) (hk : ∀ x, (enc x).length = k) (h1 : ∀ x, ∀ u ∈ enc x, u.oneCell' = true)
    (base : Nat) (v : Value) (l : List α) (hs : a.eval s = v) (hown : Owns w base e enc k v l) (A : Option Addr) (m c : Nat) (l' : List α) (hx : a.eval x = .slice A m c) (hm : m = l'.length) (hr : SliceIs w w.heap.size enc k A l')
    (hlen : (l.length + l'.length) * bytes ≤ 140737488355328) (h63 : l.length + l'.length ≤ maxLen) (hbase : base ≤ w.heap.size)
    (h : ∀ v' w', Owns w' base e enc k v' (l ++ l') → w.grownBy w' v.ownBlock → (v'.ownBlock = v.ownBlock ∨ v'.ownBlock = some w.heap.size) → K (a.put o.dst v') w') : o.wp P a w K Q := by
  obtain ⟨v', w', hrun, h2, h3, h4⟩ := run_append_list (P := P) w t o.type e i z enc k bytes ht hi hz hsize hby hzs hsz hk h1 base v l hown A m c l' hm hr hlen h63 hbase
  unfold Oper.wp execOp
  simp only [ho, resolve, invoke, builtin, Sem.run_bind, Sem.run_pure, Result.andThen_ok, List.map_toArray, List.map_cons, List.map_nil, hs, hx, hrun]
  exact h v' w' h2 h3 h4

theorem wpList_append_list {P : Program} {α : Type} {ops : Array Oper} {rest : List Oper} {o : Oper} {a : Act} {Q : Exit → Act → World → Prop} (w : World) (hgd : o.guard = none) (s x : Operand) (t : TypeId) (ho : o.op = .call { callee := .builtin .append, args := #[s, x], argTypes := #[t, t] })
    (e : TypeId) (i : TypeInfo) (z : Value) (enc : α → List Value) (k bytes : Nat) (ht : P.underlying t = some (.slice e)) (hi : P.info? e = some i) (hz : i.zero = some z)
    (hsize : i.size = k) (hby : i.bytes = bytes) (hzs : z.cells.size = k) (hsz : 0 < k) (hk : ∀ x, (enc x).length = k) (h1 : ∀ x, ∀ u ∈ enc x, u.oneCell' = true)
    (base : Nat) (v : Value) (l : List α) (hs : a.eval s = v) (hown : Owns w base e enc k v l) (A : Option Addr) (m c : Nat) (l' : List α) (hx : a.eval x = .slice A m c) (hm : m = l'.length) (hr : SliceIs w w.heap.size enc k A l')
    (hlen : (l.length + l'.length) * bytes ≤ 140737488355328) (h63 : l.length + l'.length ≤ maxLen) (hbase : base ≤ w.heap.size)
    (h : ∀ v' w', Owns w' base e enc k v' (l ++ l') → w.grownBy w' v.ownBlock → (v'.ownBlock = v.ownBlock ∨ v'.ownBlock = some w.heap.size) → wpList P ops Q rest (a.put o.dst v') w') : wpList P ops Q (o :: rest) a w :=
  wpList_plain hgd fun _ hK => wp_append_list w s x t ho e i z enc k bytes ht hi hz hsize hby hzs hsz hk h1 base v l hs hown A m c l' hx hm hr hlen h63 hbase fun v' w' h2 h3 h4 => hK _ _ (h v' w' h2 h3 h4)

theorem step_append_list {P : Program} {α : Type} {ops : Array Oper} {o : Oper} {a : Act} {K : Act → World → Prop} {Q : Exit → Act → World → Prop} {E : Prop} (w : World) (hgd : o.guard = none) (s x : Operand) (t : TypeId) (ho : o.op = .call { callee := .builtin .append, args := #[s, x], argTypes := #[t, t] })
    (e : TypeId) (i : TypeInfo) (z : Value) (enc : α → List Value) (k bytes : Nat) (ht : P.underlying t = some (.slice e)) (hi : P.info? e = some i) (hz : i.zero = some z)
    (hsize : i.size = k) (hby : i.bytes = bytes) (hzs : z.cells.size = k) (hsz : 0 < k) (hk : ∀ x, (enc x).length = k) (h1 : ∀ x, ∀ u ∈ enc x, u.oneCell' = true)
    (base : Nat) (v : Value) (l : List α) (hs : a.eval s = v) (hown : Owns w base e enc k v l) (A : Option Addr) (m c : Nat) (l' : List α) (hx : a.eval x = .slice A m c) (hm : m = l'.length) (hr : SliceIs w w.heap.size enc k A l')
    (hlen : (l.length + l'.length) * bytes ≤ 140737488355328) (h63 : l.length + l'.length ≤ maxLen) (hbase : base ≤ w.heap.size)
    (h : ∀ v' w', Owns w' base e enc k v' (l ++ l') → w.grownBy w' v.ownBlock → (v'.ownBlock = v.ownBlock ∨ v'.ownBlock = some w.heap.size) → K (a.put o.dst v') w') :
    if Region.wanted o (yielded ops a.tmps) = true then Oper.wp P o a w K Q else E := by
  have hw : Region.wanted o (yielded ops a.tmps) = true := by simp [Region.wanted, hgd]
  rw [if_pos hw]
  exact wp_append_list w s x t ho e i z enc k bytes ht hi hz hsize hby hzs hsz hk h1 base v l hs hown A m c l' hx hm hr hlen h63 hbase h

section
variable {α : Type} {w w' : World} {B : Nat} {enc : α → List Value} {k : Nat} {A : Option Addr} {l : List α}
theorem SliceIs.take (h : SliceIs w B enc k A l) (m : Nat) : SliceIs w B enc k A (l.take m) := by
  intro hl
  have hl' : 0 < l.length := by simp at hl; omega
  obtain ⟨b, o, rfl, hb, hc⟩ := h hl'
  exact ⟨b, o, rfl, hb, fun i hi j u hu => hc i (by simp at hi; omega) j u (by simpa using hu)⟩
theorem SliceIs.cut {b o c : Nat} (h : SliceIs w B enc k (some ⟨b, o, none⟩) l) (m : Nat) (hc : l.length ≤ c) :
    SliceIs w B enc k (if c = m then some ⟨b, o, none⟩ else some ⟨b, o + m * k, none⟩) (l.drop m) := by
  intro hl
  have hl' : m < l.length := by simp at hl; omega
  obtain ⟨b', o', e, hb, hcell⟩ := h (by omega)
  injection e with e
  injection e with e1 e2
  subst e1 e2
  rw [if_neg (by omega)]
  refine ⟨b, o + m * k, rfl, hb, fun i hi j u hu => ?_⟩
  have := hcell (m + i) (by simp at hi; omega) j u (by simpa using hu)
  rw [← this]
  congr 2
  rw [Nat.add_mul]
  omega
/-- One element, laid in a block of its own. -/
theorem SliceIs.one {g : Nat} {x : α} (hB : g < B) (h : ∀ j u, (enc x)[j]? = some u → w.cell? ⟨g, j, none⟩ = some u) : SliceIs w B enc k (some ⟨g, 0, none⟩) [x] := by
  intro _
  refine ⟨g, 0, rfl, hB, fun i hi j u hu => ?_⟩
  obtain rfl : i = 0 := by simp at hi; omega
  simpa using h j u (by simpa using hu)
end
theorem own_row {g o n c B : Nat} (h : B ≤ g) : ∀ k, (Value.slice (some ⟨g, o, none⟩) n c).ownBlock = some k → B ≤ k := by
  intro k hk
  injection hk with hk
  rw [← hk]
  exact h
theorem ne_row {g g' o n c : Nat} (h : g ≠ g') : some g ≠ (Value.slice (some ⟨g', o, none⟩) n c).ownBlock := fun e => h (Option.some.inj e)
def Blk (w : World) (g : Nat) (t : TypeId) (cs : Array Value) : Prop := w.heap[g]? = some (.cells cs t (0, 0))
section
variable {w w' : World} {g : Nat} {t : TypeId} {cs : Array Value}
theorem Blk.lt (h : Blk w g t cs) : g < w.heap.size := by
  rcases Nat.lt_or_ge g w.heap.size with hlt | hge
  · exact hlt
  · unfold Blk at h; rw [Array.getElem?_eq_none hge] at h; cases h
theorem Blk.cell (h : Blk w g t cs) (i : Nat) : w.cell? ⟨g, i, none⟩ = cs[i]? := by
  unfold Blk at h; simp [World.cell?, h]
theorem Blk.frozen (h : Blk w g t cs) (i : Nat) : w.frozen? ⟨g, i, none⟩ = false := by
  unfold Blk at h; simp [World.frozen?, h]
theorem Blk.new (w : World) (t : TypeId) (cs : Array Value) : Blk (w.alloc (.cells cs t)) w.heap.size t cs := heap_alloc_new w _
theorem Blk.new' {w : World} {g : Nat} {t : TypeId} {cs : Array Value} (hg : w.heap.size = g) : Blk (w.alloc (.cells cs t)) g t cs := by
  subst hg
  exact Blk.new _ _ _
theorem Blk.drew (h : Blk w g t cs) : Blk w.drew g t cs := h
theorem Blk.drewN (h : Blk w g t cs) (n : Nat) : Blk (w.drewN n) g t cs := h
theorem Blk.alloc (h : Blk w g t cs) (o : Obj) : Blk (w.alloc o) g t cs := (Below.heap_alloc w o g h.lt).trans h
theorem Blk.set_ (h : Blk w g t cs) (i : Nat) (u : Value) : Blk (w.setCell ⟨g, i, none⟩ u) g t (cs.setIfInBounds i u) := by
  unfold Blk at h ⊢
  simp [World.setCell, Array.getElem?_modify, h]
theorem Blk.far (h : Blk w g t cs) {p : Addr} (hp : g ≠ p.block) (u : Value) : Blk (w.setCell p u) g t cs := (Below.heap_setCell w p u g hp).trans h
theorem Blk.below {B : Nat} (h : Blk w g t cs) (hb : Below B w w') (hg : g < B) : Blk w' g t cs := (hb.block g hg).trans h
theorem Blk.grown {row : Option Nat} (h : Blk w g t cs) (hb : w.grownBy w' row) (hg : some g ≠ row) : Blk w' g t cs := (hb.block g h.lt hg).trans h
theorem Blk.one {α : Type} {enc : α → List Value} {k B : Nat} {x : α} (h : Blk w g t (enc x).toArray) (hB : g < B) : SliceIs w B enc k (some ⟨g, 0, none⟩) [x] :=
  SliceIs.one hB fun j u hu => by rw [h.cell]; simpa using hu
theorem Owns.empty {α : Type} {enc : α → List Value} {k base : Nat} (h : Blk w g t #[]) (hb : base ≤ g) : Owns w base t enc k (.slice (some ⟨g, 0, none⟩) 0 0) ([] : List α) :=
  ⟨by simp, .inr ⟨g, 0, #[], rfl, hb, h, Nat.le_refl _, Nat.zero_le _, by simp, by simp⟩⟩
end
end Go.Proofs.Ytoleifehijccmaa
