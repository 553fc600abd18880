import Derived.Test.YtlpgmdhnjckplaaGreatSup
/-
  Deletions of records, in plain words: sources put in order, keys of sources, the deletions of both sides.
-/
import Derived.Test.YtlpgmdhnjckplaaGreatRetD
import Derived.Test.YtlpgmdhnjckplaaGreatR6
import Derived.Test.YtlpgmdhnjckplaaGreatMapH
set_option linter.unusedVariables false
namespace Go.Proofs.YtlpgmdhnjckplaaGreat
open Go.RowKit

abbrev UpS (l : List Src) : Prop := l.Pairwise (fun a b => lessS a b ∨ a = b)
theorem insS_perm (l : List Src) (x : Src) (k : Nat) : (l.take k ++ (x :: l.drop k)).Perm (x :: l) := by
  have h := @List.perm_middle _ x (l.take k) (l.drop k)
  rwa [List.take_append_drop] at h
theorem insS_up {l : List Src} {x : Src} {k : Nat} (h : UpS l) (hk : k ≤ l.length) (hlo : ∀ j (h : j < l.length), j < k → lessS l[j] x) (hhi : ∀ h : k < l.length, ¬ lessS l[k] x) : UpS (l.take k ++ (x :: l.drop k)) := by
  have hi : ∀ b ∈ l.drop k, lessS x b ∨ x = b := by
    intro b hb
    obtain ⟨i, hi, rfl⟩ := List.getElem_of_mem hb
    have hi' : k + i < l.length := by simp at hi; omega
    have hkl : k < l.length := by omega
    have h0 : lessS x l[k] ∨ x = l[k] := by
      rcases lessS_tri l[k] x with c | c | c
      · exact absurd c (hhi hkl)
      · exact .inr c.symm
      · exact .inl c
    rw [List.getElem_drop]
    rcases Nat.eq_zero_or_pos i with rfl | h1
    · exact h0
    · rcases List.pairwise_iff_getElem.1 h k (k + i) hkl hi' (by omega) with h2 | h2
      · rcases h0 with h0 | h0
        · exact .inl (lessS_trans h0 h2)
        · rw [h0]; exact .inl h2
      · rw [← h2]; exact h0
  refine List.pairwise_append.2 ⟨h.sublist (List.take_sublist _ _), List.pairwise_cons.2 ⟨hi, h.sublist (List.drop_sublist _ _)⟩, fun a ha b hb => ?_⟩
  have hax : lessS a x := by
    obtain ⟨j, hj, rfl⟩ := List.getElem_of_mem ha
    rw [List.length_take] at hj
    rw [List.getElem_take]
    exact hlo j (by omega) (by omega)
  rcases List.mem_cons.1 hb with rfl | hb
  · exact .inl hax
  · rcases hi b hb with h1 | h1
    · exact .inl (lessS_trans hax h1)
    · rw [← h1]; exact .inl hax
theorem allSrc_tab {rt : List RTab} {s : Src} : ∀ {n : Nat}, s ∈ allSrc rt n → ∃ i r, i < n ∧ r ∈ recsI rt i ∧ s = srcR i r
  | 0, h => by cases h
  | n + 1, h => by
    rw [allSrc] at h
    rcases List.mem_append.1 h with h | h
    · obtain ⟨i, r, h1, h2, h3⟩ := allSrc_tab h
      exact ⟨i, r, by omega, h2, h3⟩
    · obtain ⟨r, h1, h2⟩ := List.mem_map.1 h
      exact ⟨n, r, by omega, h1, h2.symm⟩
/-- The sources of one more table behind those of the tables ahead of it. -/
theorem upS_append {rt : List RTab} {n : Nat} {l p : List Src} (hl : UpS l) (hp : UpS p) (h1 : l.Perm (allSrc rt n)) (h2 : p.Perm ((recsI rt n).map (srcR n))) : UpS (l ++ p) ∧ (l ++ p).Perm (allSrc rt (n + 1)) := by
  refine ⟨List.pairwise_append.2 ⟨hl, hp, fun a ha b hb => ?_⟩, h1.append h2⟩
  obtain ⟨i, r, h3, _, rfl⟩ := allSrc_tab (h1.mem_iff.1 ha)
  obtain ⟨r', _, rfl⟩ := List.mem_map.1 (h2.mem_iff.1 hb)
  refine .inl (.inl ?_)
  show (i : Int) < (n : Int)
  omega
/-- The wanted ones among sources. -/
noncomputable def wantL (gone l : List Src) : List Src := l.filter fun s => decide (s ∈ gone)
theorem wantL_perm {rt : List RTab} {gone l : List Src} (h : l.Perm (allSrc rt rt.length)) : (wantL gone l).Perm (wantE rt gone) := h.filter _
theorem wantL_up {gone l : List Src} (h : UpS l) : UpS (wantL gone l) := h.sublist (List.filter_sublist ..)
theorem wantL_take {gone l : List Src} {i : Nat} (hi : i < l.length) : wantL gone (l.take (i + 1)) = wantL gone (l.take i) ++ (if decide (l[i] ∈ gone) = true then [l[i]] else []) := by
  unfold wantL
  rw [List.take_succ_eq_append_getElem hi, List.filter_append]
  congr 1
  split
  · rename_i h
    simp only [List.filter_cons, h, List.filter_nil, if_true]
  · rename_i h
    simp only [List.filter_cons, h, List.filter_nil]
    rfl
theorem wantL_append (gone l l' : List Src) : wantL gone (l ++ l') = wantL gone l ++ wantL gone l' := List.filter_append ..
theorem wantL_le (gone l : List Src) : (wantL gone l).length ≤ l.length := List.length_filter_le ..
/-- The list that Deletions returns, on both sides. -/
def DelIs (ts : List Tab) (rt : List RTab) (gone : List Src) (seq day : Int) (l : List Chg) : Prop :=
  (DelOk ts rt gone seq day ∧ ∃ L, L.Perm (wantE rt gone) ∧ UpS L ∧ l = delL rt seq day L) ∨ (¬ DelOk ts rt gone seq day ∧ l = [])
theorem DelIs.one {ts : List Tab} {rt : List RTab} {gone : List Src} {seq day : Int} {l l' : List Chg} (h : DelIs ts rt gone seq day l) (h' : DelIs ts rt gone seq day l') : l = l' := by
  rcases h with ⟨h1, L, h2, h3, rfl⟩ | ⟨h1, rfl⟩ <;> rcases h' with ⟨k1, L', k2, k3, rfl⟩ | ⟨k1, rfl⟩
  · rw [sorted_one (h2.trans k2.symm) h3 k3]
  · exact absurd h1 k1
  · exact absurd k1 h1
  · rfl
theorem delL_row {rt : List RTab} {seq day : Int} {l : List Src} : ∀ x ∈ delL rt seq day l, x.row = [] := fun x hx => by
  unfold delL at hx
  obtain ⟨i, h, rfl⟩ := List.mem_mapIdx.1 hx
  rfl
theorem DelIs.row {ts : List Tab} {rt : List RTab} {gone : List Src} {seq day : Int} {l : List Chg} (h : DelIs ts rt gone seq day l) : ∀ x ∈ l, x.row = [] := by
  rcases h with ⟨h1, L, h2, h3, rfl⟩ | ⟨h1, rfl⟩
  · exact delL_row
  · intro x hx; cases hx
theorem allSrc_len {rt : List RTab} (h : ∀ i (h : i < rt.length), rt[i].recs.length ≤ 64) : ∀ n, (allSrc rt n).length ≤ 64 * n
  | 0 => by simp [allSrc]
  | n + 1 => by
    have h1 := allSrc_len h n
    have h2 : (recsI rt n).length ≤ 64 := by
      unfold recsI
      by_cases hn : n < rt.length
      · rw [List.getElem?_eq_getElem hn]; exact h n hn
      · rw [List.getElem?_eq_none (by omega)]; simp
    rw [allSrc, List.length_append, List.length_map]
    omega
/-- The key of a record among records with sources of their own. -/
theorem keyS_at {rt : List RTab} {i j : Nat} (hi : i < rt.length) (hj : j < rt[i].recs.length) (hown : ∀ m (hm : m < j), headS rt[i].recs[m] ≠ headS rt[i].recs[j]) : keyS rt (srcR i rt[i].recs[j]) = headV rt[i].recs[j] := by
  unfold keyS srcR
  simp only [Int.toNat_natCast]
  rw [recsI_get hi]
  have e : rt[i].recs.find? (fun r => headS r == headS rt[i].recs[j]) = some rt[i].recs[j] := by
    rw [List.find?_eq_some_iff_getElem]
    exact ⟨by simp, j, hj, rfl, fun m hm => by simpa using hown m hm⟩
  rw [e]
/-- A map of sources. -/
def srcV (s : Src) : Value := .agg #[.int .i64 s.tab, .int .i64 s.seq]
theorem srcV_inj {a b : Src} (h : srcV a = srcV b) : a = b := by
  obtain ⟨a1, a2⟩ := a
  obtain ⟨b1, b2⟩ := b
  unfold srcV at h
  injection h with h
  simp only [Array.mk.injEq, List.cons.injEq, Value.int.injEq, true_and, and_true] at h
  rw [h.1, h.2]
noncomputable def mapS (g : Src → Value) (l : List Src) : Value → Option Value := fun v => (l.find? fun s => pb (srcV s = v)).map g
theorem mapS_mem {g : Src → Value} {l : List Src} {s : Src} (h : s ∈ l) : mapS g l (srcV s) = some (g s) := by
  unfold mapS
  cases hf : l.find? (fun s' => pb (srcV s' = srcV s)) with
  | none =>
    rw [List.find?_eq_none] at hf
    exact absurd (pb_true rfl) (hf s h)
  | some s' =>
    have h1 := List.find?_some hf
    have h2 : s' = s := srcV_inj (pb_iff.1 h1)
    rw [h2]
    rfl
theorem mapS_not {g : Src → Value} {l : List Src} {v : Value} (h : ∀ s ∈ l, srcV s ≠ v) : mapS g l v = none := by
  unfold mapS
  rw [List.find?_eq_none.2 fun s hs => by rw [pb_iff]; exact h s hs]
  rfl
theorem mapS_new (g : Src → Value) (l : List Src) (s : Src) : mapS g (l ++ [s]) (srcV s) = some (g s) := mapS_mem (by simp)
theorem mapS_old {g : Src → Value} {l : List Src} {s : Src} {u : Value} (h : u ≠ srcV s) : mapS g (l ++ [s]) u = mapS g l u := by
  unfold mapS
  rw [List.find?_append]
  have e : [s].find? (fun s' => pb (srcV s' = u)) = none := by
    rw [List.find?_eq_none]
    intro x hx
    rw [List.mem_singleton.1 hx, pb_iff]
    exact fun e => h e.symm
  rw [e, Option.or_none]
theorem mapS_want {gone : List Src} (s : Src) : (mapS (fun _ => .bool true) gone (srcV s)).getD (.bool false) = .bool (decide (s ∈ gone)) := by
  by_cases h : s ∈ gone
  · rw [mapS_mem h]; simp [h]
  · rw [mapS_not fun x hx e => h (by rw [← srcV_inj e]; exact hx)]; simp [h]
theorem made_mapS (w : World) (g : Src → Value) : MapH Tryz.prog 68 (w.alloc (.map #[] 0)) w.heap.size 0 (mapS g []) := (MapH.made w _ _).eqf fun x kl _ => rfl
end Go.Proofs.YtlpgmdhnjckplaaGreat
