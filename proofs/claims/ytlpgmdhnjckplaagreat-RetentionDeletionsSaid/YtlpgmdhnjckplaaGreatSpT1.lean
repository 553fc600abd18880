import Derived.Test.YtlpgmdhnjckplaaGreatSup
/-
  Spoilt tables: own tables behind the change of one record, read again.
-/
import Derived.Test.YtlpgmdhnjckplaaGreatR7
set_option linter.unusedVariables false
namespace Go.Proofs.YtlpgmdhnjckplaaGreat
open Go.RowKit

theorem own_block_ne' {A B : Option Addr} (h : AApart A B) {n c m d g : Nat} (hg : (Value.slice A n c).ownBlock = some g) (e : some g = (Value.slice B m d).ownBlock) : False := by
  cases B with
  | none => simp [Value.ownBlock] at e
  | some b =>
    have e : g = b.block := by simpa [Value.ownBlock] using e
    exact own_block_ne h hg b rfl e
section
variable {w w' : World} {base k j n : Nat} {A : Option Addr} {l : List RTab}
/-- A record that is replaced in its list; its own two slices may have been changed ahead of it. -/
theorem recs_storeG {g f o : Nat} {u : Value} (hO : Owns w base 149 RTab.cells 1 (.slice A n n) l) (hn : n = l.length) (hTab : ∀ t ∈ l, Owns w base 148 Rcd.cells 3 (.slice t.A t.recs.length t.cap) t.recs) (hap : ∀ i j (hi : i < l.length) (hj : j < l.length), i ≠ j → AApart l[i].A l[j].A) (hk : k < l.length) (hj : j < l[k].recs.length)
    (hRow : ∀ i (hi : i < l.length) m (hm : m < l[i].recs.length), (i ≠ k ∨ m ≠ j) → RowOwn w base l[i].recs[m]) (hA : l[k].A = some ⟨g, 0, none⟩) {r' : Rcd} (hf : f < 3) (ho : o = j * 3 + f) (hcell : Rcd.cells r' = (Rcd.cells l[k].recs[j]).set f u) (hrow : RowIn (w.setCell ⟨g, o, none⟩ u) (w.setCell ⟨g, o, none⟩ u).heap.size r') :
    RTabsIn (w.setCell ⟨g, o, none⟩ u) (w.setCell ⟨g, o, none⟩ u).heap.size A (l.set k ⟨l[k].A, l[k].cap, l[k].recs.set j r'⟩) := by
  have hTk := hTab l[k] (List.getElem_mem hk)
  rw [hA] at hTk
  obtain ⟨cs, hc⟩ := hTk.typ (q := g) rfl
  have hO2 : Owns (w.setCell ⟨g, o, none⟩ u) base 149 RTab.cells 1 (.slice A n n) l := hO.otype hc (by decide) u
  have hR : ∀ x, RowOwn w base x → RowIn (w.setCell ⟨g, o, none⟩ u) (w.setCell ⟨g, o, none⟩ u).heap.size x := fun x hx => RowOwn.read (base := base) ⟨hx.1.otype hc (by decide) u, hx.2.otype hc (by decide) u⟩
  have hTk2 := hTk.store1 rcd_len rfl hj r' (j := f) (o := o) (u := u) hf ho hcell
  subst hn
  have hO3 : Owns (w.setCell ⟨g, o, none⟩ u) base 149 RTab.cells 1 (.slice A (l.set k ⟨l[k].A, l[k].cap, l[k].recs.set j r'⟩).length l.length) (l.set k ⟨l[k].A, l[k].cap, l[k].recs.set j r'⟩) := by
    refine owns_set_same hk ?_ (by simpa using hO2)
    show [Value.slice _ _ _] = [Value.slice _ _ _]
    rw [List.length_set]
  refine ⟨own_read rtab_len hO3, fun t ht => ?_⟩
  obtain ⟨i, hi, rfl⟩ := List.getElem_of_mem ht
  have hi' : i < l.length := by simpa using hi
  rw [List.getElem_set]
  by_cases hik : k = i
  · rw [if_pos hik]
    refine ⟨?_, fun x hx => ?_⟩
    · show SliceIs _ _ Rcd.cells 3 l[k].A (l[k].recs.set j r')
      rw [hA]
      exact own_read (base := base) (c := l[k].cap) (e := 148) rcd_len (by simpa using hTk2)
    · obtain ⟨m, hm, rfl⟩ := List.getElem_of_mem hx
      have hm : m < (l[k].recs.set j r').length := hm
      rw [List.length_set] at hm
      show RowIn _ _ ((l[k].recs.set j r')[m]'_)
      rw [List.getElem_set]
      by_cases hjm : j = m
      · rw [if_pos hjm]; exact hrow
      · rw [if_neg hjm]; exact hR _ (hRow k hk m hm (.inr (fun e => hjm e.symm)))
  · rw [if_neg hik]
    have hti := hTab l[i] (List.getElem_mem hi')
    have hap := hap i k hi' hk (by omega)
    refine ⟨own_read (base := base) (c := l[i].cap) (e := 148) rcd_len (hti.far (p := ⟨g, o, none⟩) (fun q hq => ?_) u), fun x hx => ?_⟩
    · exact own_block_ne hap hq ⟨g, 0, none⟩ hA
    · obtain ⟨m, hm, rfl⟩ := List.getElem_of_mem hx
      exact hR _ (hRow i hi' m hm (.inl (fun e => hik e.symm)))
/-- A record that is replaced in its list. -/
theorem recs_store {g f o : Nat} {u : Value} (hO : Owns w base 149 RTab.cells 1 (.slice A n n) l) (hn : n = l.length) (hT : OwnT w base l) (hk : k < l.length) (hj : j < l[k].recs.length) (hA : l[k].A = some ⟨g, 0, none⟩) {r' : Rcd} (hf : f < 3) (ho : o = j * 3 + f) (hcell : Rcd.cells r' = (Rcd.cells l[k].recs[j]).set f u) (hrow : RowIn (w.setCell ⟨g, o, none⟩ u) (w.setCell ⟨g, o, none⟩ u).heap.size r') :
    RTabsIn (w.setCell ⟨g, o, none⟩ u) (w.setCell ⟨g, o, none⟩ u).heap.size A (l.set k ⟨l[k].A, l[k].cap, l[k].recs.set j r'⟩) :=
  recs_storeG hO hn hT.tab hT.tapart hk hj (fun i hi m hm _ => hT.row _ (List.getElem_mem hi) _ (List.getElem_mem hm)) hA hf ho hcell hrow
/-- The row of a record behind a store into the records. -/
theorem row_behind {g o : Nat} {u : Value} (hT : OwnT w base l) (hk : k < l.length) (hA : l[k].A = some ⟨g, 0, none⟩) {x : Rcd} (hx : RowOwn w base x) : RowOwn (w.setCell ⟨g, o, none⟩ u) base x := by
  have hTk := hT.tab l[k] (List.getElem_mem hk)
  rw [hA] at hTk
  obtain ⟨cs, hc⟩ := hTk.typ (q := g) rfl
  exact ⟨hx.1.otype hc (by decide) u, hx.2.otype hc (by decide) u⟩
/-- An own slice of another type than the block that was changed. -/
theorem owns_past {α β : Type} {enc : α → List Value} {enc' : β → List Value} {s s' b b' : Nat} {e e' : TypeId} {v v' : Value} {m : List α} {m' : List β} (h : Owns w b e enc s v m) (h' : Owns w b' e' enc' s' v' m') (he : e ≠ e') (hg : w.grownBy w' v'.ownBlock) : Owns w' b e enc s v m :=
  h.kept hg fun q hq => h.neType h' he q hq
/-- The records of one table are appended to, and laid down. -/
theorem app_store {q : Nat} (hO : Owns w base 149 RTab.cells 1 (.slice (some ⟨q, 0, none⟩) n n) l) (hn : n = l.length) (hT : OwnT w base l) (hk : k < l.length) (hg : w.grownBy w' (Value.slice l[k].A l[k].recs.length l[k].cap).ownBlock) {A3 : Option Addr} {c3 : Nat} {new : List Rcd} (hnew : Owns w' base 148 Rcd.cells 3 (.slice A3 new.length c3) new) (hrow : ∀ x ∈ new, RowOwn w base x) :
    RTabsIn (w'.setCell ⟨q, k, none⟩ (.slice A3 new.length c3)) (w'.setCell ⟨q, k, none⟩ (.slice A3 new.length c3)).heap.size (some ⟨q, 0, none⟩) (l.set k ⟨A3, c3, new⟩) := by
  have hTk := hT.tab l[k] (List.getElem_mem hk)
  have hO1 := owns_past hO hTk (by decide) hg
  have hR1 : ∀ x, RowOwn w base x → RowOwn w' base x := fun x hx => ⟨owns_past hx.1 hTk (by decide) hg, owns_past hx.2 hTk (by decide) hg⟩
  obtain ⟨cs, hc⟩ := hO1.typ (q := q) rfl
  have hO2 := hO1.store1 rtab_len hn hk ⟨A3, c3, new⟩ (j := 0) (o := k) (u := .slice A3 new.length c3) (by omega) (by omega) rfl
  have hone : ∀ {A : Option Addr} {c : Nat} {recs : List Rcd}, RecsOwn w' base A c recs → RecsOwn (w'.setCell ⟨q, k, none⟩ (.slice A3 new.length c3)) base A c recs := fun h => ⟨h.1.otype hc ty_ne5 _, fun x hx => ⟨(h.2 x hx).1.otype hc ty_ne3 _, (h.2 x hx).2.otype hc ty_ne4 _⟩⟩
  refine (tabs_read (c := n) (by simpa [hn] using hO2) fun t ht => ?_).1
  obtain ⟨i, hi, rfl⟩ := List.getElem_of_mem ht
  have hi' : i < l.length := by simpa using hi
  rw [List.getElem_set]
  by_cases hik : k = i
  · rw [if_pos hik]
    exact hone ⟨hnew, fun x hx => hR1 x (hrow x hx)⟩
  · rw [if_neg hik]
    exact hone ⟨(hT.tab _ (List.getElem_mem hi')).kept hg fun q' hq' e => own_block_ne' (hT.tapart i k hi' hk (by omega)) hq' e, fun x hx => hR1 x (hT.row _ (List.getElem_mem hi') x hx)⟩
/-- A table without records is appended. -/
theorem out_app (hO : Owns w base 149 RTab.cells 1 (.slice A n n) l) (hT : OwnT w base l) (hg : w.grownBy w' (Value.slice A n n).ownBlock) {A3 : Option Addr} {c3 : Nat} (hnew : Owns w' base 149 RTab.cells 1 (.slice A3 (l ++ [zeroT]).length c3) (l ++ [zeroT])) : RTabsIn w' w'.heap.size A3 (l ++ [zeroT]) :=
  ⟨own_read rtab_len hnew, fun t ht => by
    rcases List.mem_append.1 ht with h | h
    · exact ⟨own_read rcd_len (owns_past (hT.tab t h) hO (by decide) hg), fun x hx => RowOwn.read (base := base) ⟨owns_past (hT.row t h x hx).1 hO (by decide) hg, owns_past (hT.row t h x hx).2 hO (by decide) hg⟩⟩
    · rw [List.mem_singleton.1 h]
      exact ⟨SliceIs.nil, fun x hx => by cases hx⟩⟩
/-- The positions of one record are appended to, and laid down. -/
theorem seq_app {g o : Nat} (hO : Owns w base 149 RTab.cells 1 (.slice A n n) l) (hn : n = l.length) (hT : OwnT w base l) (hk : k < l.length) (hj : j < l[k].recs.length) (hA : l[k].A = some ⟨g, 0, none⟩) (ho : o = j * 3 + 1) (hg : w.grownBy w' (Value.slice l[k].recs[j].SA l[k].recs[j].seq.length l[k].recs[j].scap).ownBlock) {A3 : Option Addr} {c3 : Nat} {new : List Int} (hnew : Owns w' base 3 intCells 1 (.slice A3 new.length c3) new) :
    RTabsIn (w'.setCell ⟨g, o, none⟩ (.slice A3 new.length c3)) (w'.setCell ⟨g, o, none⟩ (.slice A3 new.length c3)).heap.size A (l.set k ⟨l[k].A, l[k].cap, l[k].recs.set j ⟨l[k].recs[j].A, l[k].recs[j].cap, l[k].recs[j].row, A3, c3, new, l[k].recs[j].day⟩⟩) := by
  have hr := hT.row l[k] (List.getElem_mem hk) l[k].recs[j] (List.getElem_mem hj)
  have hTk := owns_past (hT.tab l[k] (List.getElem_mem hk)) hr.2 (by decide) hg
  rw [hA] at hTk
  obtain ⟨cs, hc⟩ := hTk.typ (q := g) rfl
  refine recs_storeG (owns_past hO hr.2 (by decide) hg) hn (fun t ht => owns_past (hT.tab t ht) hr.2 (by decide) hg) hT.tapart hk hj (fun i hi m hm hne => ?_) hA (f := 1) (by omega) ho rfl (RowOwn.read (base := base) ⟨(owns_past hr.1 hr.2 (by decide) hg).otype hc (by decide) _, hnew.otype hc (by decide) _⟩)
  have hx := hT.row l[i] (List.getElem_mem hi) l[i].recs[m] (List.getElem_mem hm)
  have hap : RApart l[i].recs[m] l[k].recs[j] := by
    by_cases hik : i = k
    · subst hik
      exact rself_at (hT.rself _ (List.getElem_mem hi)) hm hj (by omega)
    · exact hT.rapart i k hi hk hik _ (List.getElem_mem hm) _ (List.getElem_mem hj)
  exact ⟨owns_past hx.1 hr.2 (by decide) hg, hx.2.kept hg fun q' hq' e => own_block_ne' hap.2 hq' e⟩
/-- A value that is replaced in a record's row. -/
theorem row_put {g m : Nat} {v : Val} (hO : Owns w base 149 RTab.cells 1 (.slice A n n) l) (hn : n = l.length) (hT : OwnT w base l) (hk : k < l.length) (hj : j < l[k].recs.length) (hA : l[k].recs[j].A = some ⟨g, 0, none⟩) (hm : m < l[k].recs[j].row.length) {w' : World} (hw : w' = ((w.setCell ⟨g, m * 3, none⟩ (.int .i64 v.kind)).setCell ⟨g, m * 3 + 1, none⟩ (.int .i64 v.num)).setCell ⟨g, m * 3 + 2, none⟩ (.string v.text)) :
    RTabsIn w' w'.heap.size A (l.set k ⟨l[k].A, l[k].cap, l[k].recs.set j ⟨l[k].recs[j].A, l[k].recs[j].cap, l[k].recs[j].row.set m v, l[k].recs[j].SA, l[k].recs[j].scap, l[k].recs[j].seq, l[k].recs[j].day⟩⟩) := by
  have hr := hT.row l[k] (List.getElem_mem hk) l[k].recs[j] (List.getElem_mem hj)
  have hr1 := hr.1
  rw [hA] at hr1
  obtain ⟨vs, hvs⟩ := hr1.typ (q := g) rfl
  have hP1 := own_put3 hr1 rfl hm v
  rw [← hw] at hP1
  have hne : ∀ q, (Value.slice l[k].recs[j].SA l[k].recs[j].seq.length l[k].recs[j].scap).ownBlock = some q → q ≠ g := fun q hq => hr.2.neBlk (g := g) (cs := vs) hvs (by decide) q hq
  have hP2 := ((hr.2.far (p := ⟨g, m * 3, none⟩) hne (.int .i64 v.kind)).far (p := ⟨g, m * 3 + 1, none⟩) hne (.int .i64 v.num)).far (p := ⟨g, m * 3 + 2, none⟩) hne (.string v.text)
  rw [← hw] at hP2
  refine (upd_read (w' := w') (r' := ⟨l[k].recs[j].A, l[k].recs[j].cap, l[k].recs[j].row.set m v, l[k].recs[j].SA, l[k].recs[j].scap, l[k].recs[j].seq, l[k].recs[j].day⟩) hO hn hT hk hj (by simp [Rcd.cells]) ⟨?_, hP2⟩ fun q h1 _ => ?_).1
  · show Owns w' base _ _ 3 (.slice l[k].recs[j].A (l[k].recs[j].row.set m v).length l[k].recs[j].cap) _
    rw [hA]
    simpa using hP1
  · have hq : q ≠ g := h1 ⟨g, 0, none⟩ hA
    rw [hw, Below.heap_setCell _ _ _ _ hq, Below.heap_setCell _ _ _ _ hq, Below.heap_setCell _ _ _ _ hq]
/-- A position that is replaced in a record. -/
theorem seq_put {g m : Nat} {z : Int} (hO : Owns w base 149 RTab.cells 1 (.slice A n n) l) (hn : n = l.length) (hT : OwnT w base l) (hk : k < l.length) (hj : j < l[k].recs.length) (hA : l[k].recs[j].SA = some ⟨g, 0, none⟩) (hm : m < l[k].recs[j].seq.length) {w' : World} (hw : w' = w.setCell ⟨g, m, none⟩ (.int .i64 z)) :
    RTabsIn w' w'.heap.size A (l.set k ⟨l[k].A, l[k].cap, l[k].recs.set j ⟨l[k].recs[j].A, l[k].recs[j].cap, l[k].recs[j].row, l[k].recs[j].SA, l[k].recs[j].scap, l[k].recs[j].seq.set m z, l[k].recs[j].day⟩⟩) := by
  have hr := hT.row l[k] (List.getElem_mem hk) l[k].recs[j] (List.getElem_mem hj)
  have hr2 := hr.2
  rw [hA] at hr2
  obtain ⟨vs, hvs⟩ := hr2.typ (q := g) rfl
  have hP2 := hr2.store1 int_len rfl hm z (j := 0) (o := m) (u := .int .i64 z) (by omega) (by omega) rfl
  have hP1 := hr.1.otype (i := m) hvs (by decide) (.int .i64 z)
  rw [← hw] at hP1 hP2
  refine (upd_read (w' := w') (r' := ⟨l[k].recs[j].A, l[k].recs[j].cap, l[k].recs[j].row, l[k].recs[j].SA, l[k].recs[j].scap, l[k].recs[j].seq.set m z, l[k].recs[j].day⟩) hO hn hT hk hj (by simp [Rcd.cells]) ⟨hP1, ?_⟩ fun q _ h2 => ?_).1
  · show Owns w' base _ _ 1 (.slice l[k].recs[j].SA (l[k].recs[j].seq.set m z).length l[k].recs[j].scap) _
    rw [hA]
    simpa using hP2
  · have hq : q ≠ g := h2 ⟨g, 0, none⟩ hA
    rw [hw, Below.heap_setCell _ _ _ _ hq]
end
/-- Tables that stay small when one is replaced. -/
theorem SaneR.set {l : List RTab} (h : SaneR l) {k : Nat} {t : RTab} (h1 : t.recs.length ≤ 1000000) (h2 : ∀ r ∈ t.recs, r.row.length ≤ 1000000 ∧ r.seq.length ≤ 1000000) : SaneR (l.set k t) :=
  ⟨by simpa using h.len, fun t' ht => by
    rcases List.mem_or_eq_of_mem_set ht with h3 | rfl
    · exact h.recs t' h3
    · exact h1, fun t' ht r hr => by
    rcases List.mem_or_eq_of_mem_set ht with h3 | rfl
    · exact h.row t' h3 r hr
    · exact (h2 r hr).1, fun t' ht r hr => by
    rcases List.mem_or_eq_of_mem_set ht with h3 | rfl
    · exact h.seq t' h3 r hr
    · exact (h2 r hr).2⟩
theorem SaneR.set1 {l : List RTab} (h : SaneR l) {k j : Nat} (hk : k < l.length) {A : Option Addr} {c : Nat} {r : Rcd} (h1 : r.row.length ≤ 1000000) (h2 : r.seq.length ≤ 1000000) : SaneR (l.set k ⟨A, c, l[k].recs.set j r⟩) :=
  h.set (by simpa using h.recs l[k] (List.getElem_mem hk)) fun r' hr => by
    rcases List.mem_or_eq_of_mem_set hr with h3 | rfl
    · exact ⟨h.row _ (List.getElem_mem hk) r' h3, h.seq _ (List.getElem_mem hk) r' h3⟩
    · exact ⟨h1, h2⟩
end Go.Proofs.YtlpgmdhnjckplaaGreat
