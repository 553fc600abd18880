/-
  For every list of links and all identifiers the law IdentityRaw returns true: ValidIdentifier, Compare and Valid agree with the reference. No condition.
-/
import Derived.Test.YtoleifehijccmaaRows
import Derived.WalkKit
import Derived.ProofKit
import Derived.OpenShut
import Derived.ShutString
import Derived.ChangeOld
import Derived.Below
import Derived.SizedLaws
import Derived.Deep.Slices
import Derived.Deep.Strs
import Derived.Lib.SmallJoins
import Derived.Test.YtoleifehijccmaaLawRaw
namespace Go.Proofs.Ytoleifehijccmaa.identityRaw
open Go.ChangeShapes Go.WideShapes Go.ChangeAt Go.RowKit
set_option linter.unusedVariables false

section
variable {H : Type} {enc : TypeId × Value → H} {w : World} {base : Nat} {spare : Nat → Bool} {held : Bool} {fuel : Nat} {cs : List Value} {x : DataW H × List MemPlace}
theorem list4 (h : cs.length = 4) : ∃ a b c d, cs = [a, b, c, d] := by
  match cs, h with
  | [a, b, c, d], _ => exact ⟨a, b, c, d, rfl⟩
theorem list10 (h : cs.length = 10) : ∃ a b c d e f g i j k, cs = [a, b, c, d, e, f, g, i, j, k] := by
  match cs, h with
  | [a, b, c, d, e, f, g, i, j, k], _ => exact ⟨a, b, c, d, e, f, g, i, j, k, rfl⟩
def identData (x : Ident) : DataW H := .agg [.lit (.string x.ns.data.toList), .agg [.lit (.int .i64 x.val.kind), .lit (.int .i64 x.val.num), .lit (.string x.val.text.data.toList)]]
theorem cells_id : Try.prog.cellsOf 27 = 4 := by kernel_rfl
theorem cells_val : Try.prog.cellsOf 24 = 3 := by kernel_rfl
theorem cells_link : Try.prog.cellsOf 29 = 10 := by kernel_rfl
theorem cells_str : Try.prog.cellsOf 9 = 1 := by kernel_rfl
theorem cells_int : Try.prog.cellsOf 3 = 1 := by kernel_rfl
theorem cells_int64 : Try.prog.cellsOf 2 = 1 := by kernel_rfl
theorem cells_bool : Try.prog.cellsOf 4 = 1 := by kernel_rfl
theorem ident_trod (h : DataW.trod enc Try.prog w base spare held fuel 27 cs = some x) : ∃ id : Ident, cs = id.cells ∧ x.1 = identData id := by
  obtain ⟨y0, y1, n, rfl, hl, h0, h1⟩ := trod_struct2 Try.underlying27 h
  rw [cells_id] at hl
  obtain ⟨c0, c1, c2, c3, rfl⟩ := list4 hl
  simp only [cells_str, cells_val, List.drop_zero, List.take_succ_cons, List.take_zero, List.drop_succ_cons] at h0 h1
  obtain ⟨s, e0, rfl, _⟩ := DataW.trod_string Try.underlying9 h0
  obtain ⟨z0, z1, z2, m, rfl, _, g0, g1, g2⟩ := Go.Deep.trod_struct3 Try.underlying24 h1
  simp only [cells_str, cells_int, cells_int64, List.drop_zero, List.take_succ_cons, List.take_zero, List.drop_succ_cons] at g0 g1 g2
  obtain ⟨k, e1, rfl, _⟩ := DataW.trod_int Try.underlying3 g0
  obtain ⟨i, e2, rfl, _⟩ := DataW.trod_int Try.underlying2 g1
  obtain ⟨t, e3, rfl, _⟩ := DataW.trod_string Try.underlying9 g2
  simp only [List.cons.injEq, and_true] at e0 e1 e2 e3
  subst e0 e1 e2 e3
  exact ⟨⟨s, ⟨k, i, t⟩⟩, rfl, rfl⟩
theorem link_trod (h : DataW.trod enc Try.prog w base spare held fuel 29 cs = some x) : ∃ y : Link, cs = y.cells := by
  obtain ⟨y0, y1, y2, y3, n, rfl, hl, h0, h1, h2, h3⟩ := Go.Joins.trod_struct4 Try.underlying29 h
  rw [cells_link] at hl
  obtain ⟨c0, c1, c2, c3, c4, c5, c6, c7, c8, c9, rfl⟩ := list10 hl
  simp only [cells_id, cells_int, cells_bool, List.drop_zero, List.take_succ_cons, List.take_zero, List.drop_succ_cons] at h0 h1 h2 h3
  obtain ⟨p, e0, _⟩ := ident_trod h0
  obtain ⟨q, e1, _⟩ := ident_trod h1
  obtain ⟨k, e2, _, _⟩ := DataW.trod_int Try.underlying3 h2
  obtain ⟨r, e3, _⟩ := DataW.trod_bool Try.underlying4 h3
  simp only [Ident.cells, List.cons.injEq, and_true] at e0 e1 e2 e3
  obtain ⟨rfl, rfl, rfl, rfl⟩ := e0
  obtain ⟨rfl, rfl, rfl, rfl⟩ := e1
  subst e2 e3
  exact ⟨⟨p, q, k, r⟩, rfl⟩
theorem list_of {α : Type} {n : Nat} {Q : Nat → α → Prop} (h : ∀ i, i < n → ∃ y, Q i y) : ∃ l : List α, l.length = n ∧ ∀ i (hi : i < l.length), Q i l[i] := by
  induction n with
  | zero => exact ⟨[], rfl, fun i hi => by simp at hi⟩
  | succ n ih =>
    obtain ⟨l, hl, hq⟩ := ih fun i hi => h i (by omega)
    obtain ⟨y, hy⟩ := h n (by omega)
    refine ⟨l ++ [y], by simp [hl], fun i hi => ?_⟩
    rcases Nat.lt_or_ge i n with h1 | h1
    · rw [List.getElem_append_left (by omega)]; exact hq i (by omega)
    · have e : i = n := by simp at hi; omega
      subst e
      rw [List.getElem_append_right (by omega)]
      simpa [hl] using hy
theorem mapM_get {α : Type} {f : Nat → Option α} : ∀ {l : List Nat} {r : List α}, l.mapM f = some r → ∀ j : Nat, j < l.length → (l[j]?.bind f) = r[j]?
  | [], r, _, j, hj => by simp at hj
  | a :: l, r, h, j, hj => by
    rw [List.mapM_cons] at h
    cases ha : f a with
    | none => simp [ha] at h
    | some v =>
      cases hm : l.mapM f with
      | none => simp [ha, hm] at h
      | some vs =>
        simp [ha, hm] at h
        subst h
        cases j with
        | zero => simp [ha]
        | succ j => simpa using mapM_get hm j (by simpa using hj)
theorem cells_get {a : Addr} {n : Nat} {r : List Value} (h : w.cells? base a n = some r) (j : Nat) (hj : j < n) : w.cell? (a.add j) = r[j]? := by
  unfold World.cells? at h
  split at h
  · have := mapM_get h j (by simpa using hj)
    simpa [hj] using this
  · cases h
theorem span_none {a : Addr} {v : Value} (h : w.cell? a = some v) : a.spot = none := by
  cases hs : a.spot with
  | none => rfl
  | some y =>
    simp only [World.cell?, hs, Option.isSome_some, if_true] at h
    split at h <;> simp at h
theorem add_eq (b o n : Nat) : (Addr.mk b o none).add n = ⟨b, o + n, none⟩ := by
  unfold Addr.add
  split
  · rename_i h; subst h; rfl
  · rfl
theorem links_open {a : Option Addr} {len cap : Nat} (h : DataW.trod enc Try.prog w base spare held fuel 22 [.slice a len cap] = some x) : ∃ l : List Link, l.length = len ∧ SliceIs w w.heap.size Link.cells 10 a l := by
  rcases Go.Deep.open_slice Try.underlying22 h with ⟨hcs, _⟩ | ⟨a', len', cap', m, n, D, Pl, hcs, _, hl, _, hm, _, hel⟩
  · simp only [List.cons.injEq, Value.slice.injEq, and_true] at hcs
    obtain ⟨rfl, rfl, rfl⟩ := hcs
    exact ⟨[], rfl, SliceIs.nil⟩
  · simp only [List.cons.injEq, Value.slice.injEq, and_true] at hcs
    obtain ⟨rfl, rfl, rfl⟩ := hcs
    have hlm : len ≤ m := by rw [hm]; split <;> omega
    obtain ⟨l, hll, hq⟩ := list_of (n := len) (Q := fun i (y : Link) => ∀ j, j < 10 → w.cell? ((a'.add (i * 10)).add j) = y.cells[j]?) (fun i hi => by
      obtain ⟨cs', h1, h2⟩ := hel i (by omega)
      obtain ⟨y, rfl⟩ := link_trod h2
      rw [cells_link] at h1
      exact ⟨y, fun j hj => cells_get h1 j hj⟩)
    refine ⟨l, hll, fun h0 => ?_⟩
    obtain ⟨xb, xo, xs⟩ := a'
    have hc0 := hq 0 h0 0 (by omega)
    rw [show (l[0].cells)[0]? = some (.string l[0].a.ns) from rfl] at hc0
    have hsp : xs = none := by
      have := span_none hc0
      simpa [Addr.add] using this
    subst hsp
    simp only [add_eq] at hq hc0
    have hlt : xb < w.heap.size := by
      rcases Nat.lt_or_ge xb w.heap.size with h | h
      · exact h
      · simp [World.cell?, Array.getElem?_eq_none h] at hc0
    refine ⟨xb, xo, rfl, hlt, fun i hi j u hu => ?_⟩
    have hj : j < 10 := by have := (List.getElem?_eq_some_iff.1 hu).1; simpa [Link.cells] using this
    rw [← Nat.add_assoc, hq i hi j hj]
    exact hu
end
theorem own : ownKnob Try.prog.godebug = none := by kernel_rfl
theorem laidOut : laidOutB Try.prog = true := by kernel_rfl
set_option maxRecDepth 100000 in
theorem ident_sized {H : Type} {ts : List TypeId} {ds : List (DataW H)} (h : (DataW.weightsEach Try.prog ts ds).all (· ≤ reachBytes) = true) {j : Nat} {a : Ident} (ht : ts[j]? = some 27) (hd : ds[j]? = some (identData a)) : a.ns.size ≤ 140737488355328 ∧ a.val.text.size ≤ 140737488355328 := by
  have key : ∀ n ∈ (identData (H := H) a).weights Try.prog 27, n ≤ 140737488355328 := by
    intro n hn
    have := List.all_eq_true.1 h _ (DataW.weights_mem_each ht hd n hn)
    have h2 := reachBytes_lt
    simp only [decide_eq_true_eq] at this
    omega
  have e : (identData (H := H) a).weights Try.prog 27 = [a.ns.data.toList.length, a.val.text.data.toList.length] := by
    simp [identData, DataW.weights, DataW.weightsEach, Try.underlying27, Try.underlying24]
  rw [e] at key
  have h1 := key _ (List.mem_cons_self ..)
  have h2 := key _ (List.mem_cons_of_mem _ (List.mem_cons_self ..))
  simp only [Array.length_toList] at h1 h2
  exact ⟨h1, h2⟩
set_option maxRecDepth 100000 in
theorem lifted (os : Os) (started : os.Started) (H : Type) (enc : TypeId × Value → H) :
    ReturnsInHanded {} Try.checked os 7 .any (Rows.identityRawSpec.pre6 enc Try.prog Try.f7 Rows.identityRawRow.domain false) (Rows.identityRawSpec.post enc Try.prog Try.f7 false true false false) := by
  refine returnsInHanded_of_change_sized (C := Try.checked) own started (by kernel_rfl) Try.func7
    (ChangeSpec.witness6 (enc := enc) (C := Try.checked) false ⟨#[], #[.slice none 0 0, .agg #[.string ⟨#[]⟩, .int .i64 0, .int .i64 0, .string ⟨#[]⟩], .agg #[.string ⟨#[]⟩, .int .i64 0, .int .i64 0, .string ⟨#[]⟩]], []⟩ 8 (by kernel_rfl) (by kernel_rfl) (by kernel_rfl) (by kernel_rfl)) ?_
  intro W base args ds gs before hval0 hW hcnd hsz0 _
  have hval : ∀ (j : Nat) t v, Try.f7.params[j]? = some t → args[j]? = some v → Value.okWide Try.prog W .any base t v := hval0
  have hsz : (DataW.weightsEach Try.prog (Try.f7.params.toList ++ Rows.identityRawSpec.plain.varTypes Try.prog) (ds ++ gs)).all (· ≤ reachBytes) = true := hsz0
  have hW' := hW
  obtain ⟨p, q, hA0, hV, rfl, hfz, hnd⟩ := hW
  have hA : DataW.TrodAll enc Try.prog W 0 (fun _ => true) true Try.f7.params.toList args.toList ds p := hA0
  rw [Try.params7] at hA hval hsz
  obtain ⟨v0, vs0, d0, ds0, p0, q0, hargs, rfl, rfl, h0, r0⟩ := trodAll_cons hA
  obtain ⟨v1, vs1, d1, ds1, p1, q1, rfl, rfl, rfl, h1, r1⟩ := trodAll_cons r0
  obtain ⟨v2, vs2, d2, ds2, p2, q2, rfl, rfl, rfl, h2, r2⟩ := trodAll_cons r1
  obtain ⟨rfl, rfl, rfl⟩ := trodAll_nil r2
  obtain rfl : args = #[v0, v1, v2] := by cases args; simp_all
  obtain ⟨rfl, rfl⟩ := trodVars_none hV
  obtain ⟨a0, len0, cap0, rfl⟩ := okWide_slice Try.underlying22 (hval 0 22 v0 rfl rfl)
  obtain ⟨cs1, rfl, _⟩ := okWide_struct Try.underlying27 (hval 1 27 v1 rfl rfl)
  obtain ⟨cs2, rfl, _⟩ := okWide_struct Try.underlying27 (hval 2 27 v2 rfl rfl)
  have k0 := h0
  have k1 := h1
  have k2 := h2
  have lt0 : ∀ x ∈ p0, x.block < W.heap.size := by obtain ⟨m, hm⟩ := k0; exact DataW.trod_lt m _ _ _ hm
  have lt1 : ∀ x ∈ p1, x.block < W.heap.size := by obtain ⟨m, hm⟩ := k1; exact DataW.trod_lt m _ _ _ hm
  have lt2 : ∀ x ∈ p2, x.block < W.heap.size := by obtain ⟨m, hm⟩ := k2; exact DataW.trod_lt m _ _ _ hm
  obtain ⟨l, hll, hsl⟩ : ∃ l : List Link, l.length = len0 ∧ SliceIs W W.heap.size Link.cells 10 a0 l := by
    obtain ⟨fuel, hf⟩ := h0
    exact links_open (by simpa [Value.cells] using hf)
  obtain ⟨a, ea, da⟩ : ∃ a : Ident, cs1.toList = a.cells ∧ d1 = identData a := by
    obtain ⟨fuel, hf⟩ := h1
    obtain ⟨a, e, d⟩ := ident_trod (by simpa [Value.cells] using hf)
    exact ⟨a, e, d⟩
  obtain ⟨b, eb, db⟩ : ∃ b : Ident, cs2.toList = b.cells ∧ d2 = identData b := by
    obtain ⟨fuel, hf⟩ := h2
    obtain ⟨b, e, d⟩ := ident_trod (by simpa [Value.cells] using hf)
    exact ⟨b, e, d⟩
  obtain rfl : cs1 = a.cells.toArray := by rw [← ea]
  obtain rfl : cs2 = b.cells.toArray := by rw [← eb]
  have hza := ident_sized hsz (j := 1) (a := a) rfl (by rw [da]; rfl)
  clear hA0 hval0
  subst hll
  refine (raw_walk a0 cap0 l a b W hsl hza.1 hza.2).mono fun e W' ⟨he, bel⟩ => ?_
  subst he
  exact ⟨_, rfl, _, _, _, [], _, [], hW', trodAll_mk1 (shut_bool Try.underlying4 _), (trodAll_cons_mk (Below.trod laidOut (by kernel_rfl) (of_decide_eq_true (by kernel_rfl)) k0 bel lt0) (trodAll_cons_mk (Below.trod laidOut (by kernel_rfl) (of_decide_eq_true (by kernel_rfl)) k1 bel lt1) (trodAll_cons_mk (Below.trod laidOut (by kernel_rfl) (of_decide_eq_true (by kernel_rfl)) k2 bel lt2) trodAll_mk0))), rfl, bel.frame _, fun h => by cases h⟩

theorem over : Rows.identityRawRow.holds Try.pinned (OpenSpec.ofChange Rows.identityRawSpec) :=
  OpenClaim.holds_of_wide 7 Try.f7 rfl rfl rfl rfl rfl rfl rfl ⟨rfl, rfl, rfl, rfl, rfl⟩ rfl rfl rfl rfl rfl (by kernel_rfl) Try.func7 (by kernel_rfl)
    (of_decide_eq_true (by kernel_rfl)) (by unfold Func.isWrapper; first | (rw [if_pos (by decide +kernel)]; kernel_rfl) | (rw [if_neg (by decide +kernel)]; exact ⟨rfl, rfl⟩))
    (fun os started H enc _ => lifted os started H enc)
theorem proved : Rows.IdentityRawSaid := over
#print axioms proved
end Go.Proofs.Ytoleifehijccmaa.identityRaw
