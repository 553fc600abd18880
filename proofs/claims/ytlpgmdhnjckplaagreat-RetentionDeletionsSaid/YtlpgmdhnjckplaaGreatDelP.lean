import Derived.Test.YtlpgmdhnjckplaaGreatSup
/-
  Deletions of records: what both sides gather, step by step, and keys of sources.
-/
import Derived.Test.YtlpgmdhnjckplaaGreatRetF
import Derived.Test.YtlpgmdhnjckplaaGreatR22
set_option linter.unusedVariables false
namespace Go.Proofs.YtlpgmdhnjckplaaGreat
open Go.RowKit Go

theorem allSrc_key {ts : List Tab} {rt : List RTab} (hok : RTabsOk ts rt) {s : Src} (h : s ∈ allSrc rt rt.length) :
    ∃ i r, ∃ hi : i < rt.length, s.tab = (i : Int) ∧ r ∈ rt[i].recs ∧ s.seq = headS r ∧ rt[i].recs.find? (fun r => headS r == s.seq) = some r ∧ keyS rt s = headV r ∧ 0 < r.row.length := by
  obtain ⟨i, r0, hi, hr, rfl⟩ := allSrc_tab h
  rw [recsI_get hi] at hr
  cases hf : rt[i].recs.find? (fun r => headS r == headS r0) with
  | none =>
    rw [List.find?_eq_none] at hf
    exact absurd (by simp) (hf r0 hr)
  | some r =>
    have hm := List.mem_of_find?_eq_some hf
    have hs := List.find?_some hf
    have hits : i < ts.length := by have := hok.len; omega
    obtain ⟨j, hj, rfl⟩ := List.getElem_of_mem hm
    have hat := ((hok.tab i hi hits).at_ j hj).ok
    refine ⟨i, rt[i].recs[j], hi, rfl, hm, (by simpa using hs : headS rt[i].recs[j] = headS r0).symm, hf, ?_, by rw [hat.len]; exact (hok.cat.cols hits).1⟩
    unfold keyS srcR
    simp only [Int.toNat_natCast]
    rw [recsI_get hi, hf]
theorem DelOk.not_fit {ts : List Tab} {rt : List RTab} {gone l : List Src} {seq day : Int} (hp : l.Perm (allSrc rt rt.length)) {i : Nat} (hi : i < l.length) (hg : l[i] ∈ gone) (h : 1073741824 < seq + (wantL gone (l.take i)).length) : ¬ DelOk ts rt gone seq day := fun hd => by
  have h1 := hd.fit
  rw [← (wantL_perm hp).length_eq] at h1
  have h2 : (wantL gone (l.take (i + 1))).length ≤ (wantL gone l).length := by
    conv => rhs; rw [← List.take_append_drop (i + 1) l, wantL_append, List.length_append]
    omega
  rw [wantL_take hi, if_pos (decide_eq_true hg), List.length_append, List.length_singleton] at h2
  omega
theorem DelOk.yes {ts : List Tab} {rt : List RTab} {gone l : List Src} {seq day : Int} (hok : RTabsOk ts rt) (hd : 0 ≤ day ∧ day ≤ 1048576) (hs : 1 ≤ seq ∧ seq ≤ 1073741824) (hp : l.Perm (allSrc rt rt.length)) (h : seq + (wantL gone l).length ≤ 1073741825) : DelOk ts rt gone seq day :=
  ⟨hok, hd, hs, by rw [← (wantL_perm hp).length_eq]; exact h⟩
theorem DelIs.yes {ts : List Tab} {rt : List RTab} {gone l : List Src} {seq day : Int} (hok : RTabsOk ts rt) (hd : 0 ≤ day ∧ day ≤ 1048576) (hs : 1 ≤ seq ∧ seq ≤ 1073741824) (hp : l.Perm (allSrc rt rt.length)) (hu : UpS l) (h : seq + (wantL gone l).length ≤ 1073741825) : DelIs ts rt gone seq day (delL rt seq day (wantL gone l)) :=
  .inl ⟨DelOk.yes hok hd hs hp h, _, wantL_perm hp, wantL_up hu, rfl⟩
theorem int_litsN {d : Nat} {a : Int} (ha : -1 ≤ a ∧ a ≤ 1073741824) : Tryz.prog.keyLits (d + 1) 3 [.int .i64 a] = some [.int .i64 a] := by
  have hw : (Lit.int .i64 a).wf = true := by
    have h1 : IntKind.i64.min ≤ a := Int.le_trans (by decide) ha.1
    simp [Lit.wf, h1]; omega
  unfold Program.keyLits
  rw [Tryz.underlying3]
  simp [hw]
theorem src_keyN {a b : Int} (ha : -1 ≤ a ∧ a ≤ 1073741824) (hb : 0 ≤ b ∧ b ≤ 1073741824) : ∃ kl, Go.keyOf Tryz.prog 68 (.agg #[.int .i64 a, .int .i64 b]) = some kl := by
  have hsz : Tryz.prog.cellsOf 68 = 2 := by kernel_rfl
  have hs3 : Tryz.prog.cellsOf 3 = 1 := by kernel_rfl
  have hkt : Tryz.prog.keyType 68 = true := by kernel_rfl
  obtain ⟨n, hn⟩ : ∃ n, Tryz.prog.types.size = n + 1 := ⟨Tryz.prog.types.size - 1, by kernel_rfl⟩
  have hf : (Value.agg #[.int .i64 a, .int .i64 b]).formed Tryz.prog 68 = true := by
    unfold Value.formed
    rw [Tryz.underlying68, hsz]
    rfl
  have hl : Tryz.prog.keyLits (Tryz.prog.types.size + 1) 68 [.int .i64 a, .int .i64 b] = some [.int .i64 a, .int .i64 b] := by
    rw [hn]
    unfold Program.keyLits
    rw [Tryz.underlying68]
    simp [hsz, hs3, int_litsN ha, int_litsN (a := b) ⟨by omega, hb.2⟩]
  refine ⟨.string (keyBytes [.int .i64 a, .int .i64 b]), ?_⟩
  unfold Go.keyOf
  rw [Tryz.underlying68, hkt, hf]
  show Option.map (fun ls => Lit.string (keyBytes ls)) (Tryz.prog.keyLits (Tryz.prog.types.size + 1) 68 [.int .i64 a, .int .i64 b]) = _
  rw [hl]
  rfl
/-- Sources that serve as keys. -/
def SrcsIn (l : List Src) : Prop := ∀ s ∈ l, -1 ≤ s.tab ∧ s.tab ≤ 1000 ∧ 0 ≤ s.seq ∧ s.seq ≤ 1073741824
theorem SrcsIn.snoc {l : List Src} (h : SrcsIn l) {s : Src} (hs : -1 ≤ s.tab ∧ s.tab ≤ 1000 ∧ 0 ≤ s.seq ∧ s.seq ≤ 1073741824) : SrcsIn (l ++ [s]) := fun x hx => by
  rcases List.mem_append.1 hx with h1 | h1
  · exact h x h1
  · rw [List.mem_singleton.1 h1]; exact hs
theorem SrcsIn.key {l : List Src} (h : SrcsIn l) {s : Src} (hs : s ∈ l) : ∃ kl, Go.keyOf Tryz.prog 68 (srcV s) = some kl := by
  obtain ⟨h1, h2, h3, h4⟩ := h s hs
  exact src_keyN ⟨h1, by omega⟩ ⟨h3, h4⟩
/-- The value of a key. -/
def valV (x : Val) : Value := .agg #[.int .i64 x.kind, .int .i64 x.num, .string x.text]
/-- The wanted ones among the records of one more table. -/
theorem wantL_rec {gone : List Src} (l : List Src) (i : Nat) {recs : List Rcd} {j : Nat} (hj : j < recs.length) : wantL gone (l ++ (recs.take (j + 1)).map (srcR i)) = wantL gone (l ++ (recs.take j).map (srcR i)) ++ (if decide (srcR i recs[j] ∈ gone) = true then [srcR i recs[j]] else []) := by
  rw [List.take_succ_eq_append_getElem hj, List.map_append, List.map_singleton, ← List.append_assoc, wantL_append _ (l ++ _)]
  congr 1
  unfold wantL
  split
  · rename_i h
    simp only [List.filter_cons, h, List.filter_nil, if_true]
  · rename_i h
    simp only [List.filter_cons, h, List.filter_nil]
    rfl
end Go.Proofs.YtlpgmdhnjckplaaGreat
