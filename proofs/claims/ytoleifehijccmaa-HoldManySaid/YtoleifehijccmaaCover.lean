/-
  Which versions a hold covers, in the program.
-/
import Derived.Test.YtoleifehijccmaaHold
namespace Go.Proofs.Ytoleifehijccmaa
set_option linter.unusedVariables false
open Go.RowKit

/-- The cells of a scope: the hold and the slice of its subject. -/
def scopeCells (x : Hold) (v : Value) : Array Value := (x.cells ++ [v]).toArray
theorem scope_blk {w : World} {g : Nat} {x : Hold} {v : Value} (h : Blk w g 104 (scopeCells x v)) :
    w.cell? ⟨g, 0, none⟩ = some (.int .i64 x.table) ∧ w.cell? ⟨g, 1, none⟩ = some (.int .i64 x.column) ∧ (w.cell? ⟨g, 2, none⟩ = some (.string x.who.ns) ∧ w.cell? ⟨g, 3, none⟩ = some (.int .i64 x.who.val.kind) ∧ w.cell? ⟨g, 4, none⟩ = some (.int .i64 x.who.val.num) ∧ w.cell? ⟨g, 5, none⟩ = some (.string x.who.val.text)) ∧ w.cell? ⟨g, 6, none⟩ = some (.int .i64 x.seq) ∧ w.cell? ⟨g, 7, none⟩ = some (.int .i64 x.day0) ∧ w.cell? ⟨g, 8, none⟩ = some (.int .i64 x.day1) ∧ w.cell? ⟨g, 9, none⟩ = some v :=
  ⟨h.cell 0, h.cell 1, ⟨h.cell 2, h.cell 3, h.cell 4, h.cell 5⟩, h.cell 6, h.cell 7, h.cell 8, h.cell 9⟩
def concernsB (x : Hold) (t c : Int) : Bool := (x.table == -1 || x.table == t) && (x.column == -1 || x.column == c)
set_option maxRecDepth 100000 in
set_option maxHeartbeats 1000000 in
theorem scope_concerns (g : Nat) (x : Hold) (v : Value) (t c s : Int) (w : World) (hB : Blk w g 104 (scopeCells x v)) :
    Calls Try.prog 84 #[.pointer (some ⟨g, 0, none⟩), .agg #[.int .i64 t, .int .i64 c, .int .i64 s]] w fun e w' => e = .returned (.bool (concernsB x t c)) ∧ Below w.heap.size w w' := by
  have hgl := hB.lt
  have HB := Lib.hid hB
  clear hB
  go_enter Try.func84, Try.ntmps84
  go_upto_region 1 with (fail)
  refine abs_world (P := fun u => Code.wp _ _ _ _ u) (R := fun u => Blk u g 104 (scopeCells x v) ∧ Blk u w.heap.size 56 #[.int .i64 t, .int .i64 c, .int .i64 s] ∧ Below w.heap.size w u) ⟨?_, ?_, ?_⟩ ?_
  · exact HB.out.alloc _
  · exact Blk.new _ _ _
  · repeat (first | with_reducible exact Below.refl _ _ | with_reducible assumption | (with_reducible refine Below.setCell ?_ ?_ _; rotate_left; focus (first | exact Nat.le_refl _ | exact Nat.le_add_right _ _ | (simp; done) | (simp; omega) | omega)) | (with_reducible refine Below.alloc ?_ ?_ _; rotate_left; focus (first | exact Nat.le_refl _ | exact Nat.le_add_right _ _ | (simp; done) | (simp; omega) | omega)) | with_reducible refine Below.drew ?_ | with_reducible refine below_drewN ?_ _ | (with_reducible refine below_nextN ?_ (by with_reducible assumption) ?_; rotate_left; focus (first | exact Nat.le_refl _ | exact Nat.le_add_right _ _ | (simp; done) | (simp; omega) | omega)))
  rintro W ⟨hb1, hb2, hbW⟩
  obtain ⟨a0, a1, _, _, _, _, _⟩ := scope_blk hb1
  have b0 := hb2.cell 0
  have b1 := hb2.cell 1
  simp only [List.getElem?_toArray, List.getElem?_cons_zero, List.getElem?_cons_succ] at b0 b1
  have hk0 := keepQ (w := W) g hb1.lt
  have hk1 := keepQ (w := W) w.heap.size hb2.lt
  have hz1 := hb1.lt
  have hz2 := hb2.lt
  clear hb1 hb2 HB
  cases hx : (x.table == -1) <;> cases ht : (x.table == t) <;> cases hc : (x.column == -1) <;> cases hd : (x.column == c)
  all_goals
    have HX := Lib.hid hx
    have HT := Lib.hid ht
    have HC := Lib.hid hc
    have HD := Lib.hid hd
    refine wp_region_bel (by kernel_rfl) (by kernel_rfl) ?_; (repeat (go_big_quiet_step (fail))); refine wpQuiet_nil ?_; intro wq hq
    go_wp2_with fail
    go_ret
    exact ⟨ret_bool (by simp only [concernsB, HX.out, HT.out, HC.out, HD.out]; rfl), below_nextN hbW hq hbW.size⟩
theorem cmpId_eqL {x y : Ident} (hx : validId x = true) (h : cmpId x y = 0) : x = y := by
  unfold cmpId at h
  by_cases h1 : cmpStr x.ns y.ns = 0
  · simp [h1] at h
    rw [cmpVal_fields, clean_yes (validId_val hx)] at h
    have e := cmpFields_eq h
    have hk : x.val.kind ≠ 0 := by
      simp only [validId, Bool.and_eq_true, bne_iff_ne, ne_eq] at hx
      exact hx.2.2
    obtain ⟨s, v⟩ := x
    obtain ⟨s', v'⟩ := y
    simp only at h1 e hk
    cases hv : valB v'
    · rw [clean_no hv] at e
      rw [e] at hk
      exact absurd rfl hk
    · rw [clean_yes hv] at e
      rw [cmpStr_eq h1, e]
  · simp [h1] at h
theorem found_yes {l : List Ident} (hv : AllValid l) (ha : Asc l) {x : Ident} {i : Nat} (hi : i < l.length) (hlo : ∀ k (h : k < l.length), k < i → cmpId l[k] x < 0) (hhi : ∀ k (h : k < l.length), i ≤ k → 0 ≤ cmpId l[k] x) : (cmpId l[i] x == 0) = decide (x ∈ l) := by
  rw [Bool.eq_iff_iff, beq_iff_eq, decide_eq_true_iff]
  constructor
  · intro h
    rw [← cmpId_eqL (hv _ (List.getElem_mem hi)) h]
    exact List.getElem_mem hi
  · intro h
    obtain ⟨j, hj, rfl⟩ := List.getElem_of_mem h
    rcases Nat.lt_trichotomy j i with k | k | k
    · have := hlo j hj k
      rw [cmpId_refl] at this
      omega
    · subst k
      exact cmpId_refl _
    · have h1 := asc_get ha hi hj k
      have h2 := hhi i hi (Nat.le_refl _)
      omega
theorem found_no {l : List Ident} {x : Ident} (hlo : ∀ k (h : k < l.length), cmpId l[k] x < 0) : decide (x ∈ l) = false := by
  rw [decide_eq_false_iff_not]
  intro h
  obtain ⟨j, hj, rfl⟩ := List.getElem_of_mem h
  have := hlo j hj
  rw [cmpId_refl] at this
  omega
set_option maxRecDepth 100000 in
set_option maxHeartbeats 1000000 in
theorem search_has (A : Option Addr) (c n : Nat) (l : List Ident) (x : Ident) (w : World) (hl : SliceIs w w.heap.size Ident.cells 4 A l) (hln : l.length = n) (hn : n ≤ 1000000) (ha : Asc l) (hv : AllValid l) {r : Bool} (hr : decide (x ∈ l) = r) :
    Calls Try.prog 82 #[.slice A n c, .agg #[.string x.ns, .int .i64 x.val.kind, .int .i64 x.val.num, .string x.val.text], .func (.func 27) #[] #[]] w fun e w' =>
      e = .returned (.tuple #[.int .i64 (insK l x), .bool r]) ∧ Below w.heap.size w w' := by
  subst hln hr
  have HA := Lib.hid ha
  have HV := Lib.hid hv
  clear ha hv
  go_enter Try.func82, Try.ntmps82
  go_wp2
  go_loopw [9, 10] (fun vi vj wr => ∃ i j : Nat, i ≤ j ∧ j ≤ l.length ∧ vi = .int .i64 i ∧ vj = .int .i64 j ∧ Below w.heap.size w wr ∧ (∀ y u, (Ident.cells x)[y]? = some u → wr.cell? ⟨w.heap.size, 0 + y, none⟩ = some u) ∧ w.heap.size < wr.heap.size ∧ (∀ k (h : k < l.length), k < i → cmpId l[k] x < 0) ∧ (∀ k (h : k < l.length), j ≤ k → 0 ≤ cmpId l[k] x)) (fun vi vj _ => (intOf vj).toNat - (intOf vi).toNat)
  case atStart => exact ⟨0, l.length, Nat.zero_le _, Nat.le_refl _, rfl, rfl, by repeat (first | with_reducible exact Below.refl _ _ | with_reducible assumption | (with_reducible refine Below.setCell ?_ ?_ _; rotate_left; focus (first | exact Nat.le_refl _ | exact Nat.le_add_right _ _ | (simp; done) | (simp; omega) | omega)) | (with_reducible refine Below.alloc ?_ ?_ _; rotate_left; focus (first | exact Nat.le_refl _ | exact Nat.le_add_right _ _ | (simp; done) | (simp; omega) | omega)) | with_reducible refine Below.drew ?_ | with_reducible refine below_drewN ?_ _ | (with_reducible refine below_nextN ?_ (by with_reducible assumption) ?_; rotate_left; focus (first | exact Nat.le_refl _ | exact Nat.le_add_right _ _ | (simp; done) | (simp; omega) | omega))), fun j u hu => by simpa [Ident.cells] using hu, by simp, fun k h hk => by omega, fun k h hk => by omega⟩
  case round =>
    obtain ⟨i, j, hij, hj, rfl, rfl, hbw, hx, hz, hlo, hhi⟩ := hrel
    obtain ⟨x0, x1, x2, x3⟩ := Ident.cells4 hx
    simp only [Nat.zero_add] at x1 x2 x3
    have HX := Lib.hid hx
    have HLO := Lib.hid hlo
    have HHI := Lib.hid hhi
    clear hx hlo hhi
    have hk1 := keepQ (w := wr) w.heap.size hz
    by_cases hlt : i < j
    · obtain ⟨m, hme⟩ : ∃ m : Nat, m = (i + j) / 2 := ⟨_, rfl⟩
      have hcast : ((i : Int) + (j : Int)) / 2 = (m : Int) := by omega
      have hm1 : i ≤ m := by omega
      have hm2 : m < j := by omega
      have hm : m < l.length := by omega
      have HC := Lib.hid hcast
      clear hcast hme
      obtain ⟨b, o, rfl, hb, hc⟩ := (hl.below hbw).get hm
      obtain ⟨h0, h1, h2, h3⟩ := Ident.cells4 hc
      have hk0 := keepQ (w := wr) b (by have := hbw.size; omega)
      clear hc
      go_wp2
      rw [HC.out]
      refine wp_region_bel (by kernel_rfl) (by kernel_rfl) ?_; (repeat (go_big_quiet_step ((go_at_call 27; with_reducible exact bel_of_ext (identity_CompareId l[m] x _))))); refine wpQuiet_nil ?_; intro wq hq
      have hq' := below_nextN hbw hq hbw.size
      have hz' : w.heap.size < wq.heap.size := by have := hq.size; omega
      by_cases hcmp : cmpId l[m] x < 0
      · go_wp2
        go_roundw
        case rel => exact ⟨m + 1, j, by omega, hj, by go_num, rfl, hq', fun y u hu => (hq.cell (by exact hz)).trans (HX.out y u hu), hz', fun k h hk => by
          rcases Nat.lt_or_ge k m with hkm | hkm
          · exact cmpId_ok.lt_le (asc_get HA.out h hm hkm) (by omega)
          · obtain rfl : k = m := by omega
            exact hcmp, HHI.out⟩
        case measure => simp [intOf]; omega
      · have hge : decide (cmpId l[m] x < 0) = false := by simpa using hcmp
        go_wp2
        go_roundw
        case rel => exact ⟨i, m, by omega, by omega, rfl, rfl, hq', fun y u hu => (hq.cell (by exact hz)).trans (HX.out y u hu), hz', HLO.out, fun k h hk => by
          rcases Nat.lt_or_ge m k with hkm | hkm
          · have h1 := asc_get HA.out hm h hkm
            rcases Int.lt_or_le (cmpId l[k] x) 0 with h2 | h2
            · have := cmpId_ok.lt_le h1 (Int.le_of_lt h2)
              omega
            · exact h2
          · obtain rfl : k = m := by omega
            omega⟩
        case measure => simp [intOf]; omega
    · obtain rfl : i = j := by omega
      have hK : insK l x = i := insK_bound x i hj HLO.out (fun h => HHI.out i h (Nat.le_refl _))
      have HK := Lib.hid hK
      clear hK
      by_cases hil : i < l.length
      · obtain ⟨b, o, rfl, hb, hc⟩ := (hl.below hbw).get hil
        obtain ⟨h0, h1, h2, h3⟩ := Ident.cells4 hc
        have hk0 := keepQ (w := wr) b (by have := hbw.size; omega)
        have HF := Lib.hid (found_yes HV.out HA.out hil HLO.out HHI.out)
        clear hc
        go_wp2
        refine wp_region_bel (by kernel_rfl) (by kernel_rfl) ?_; (repeat (go_big_quiet_step ((go_at_call 27; with_reducible exact bel_of_ext (identity_CompareId l[i] x _))))); refine wpQuiet_nil ?_; intro wq hq
        go_wp2
        go_ret2
        rw [HK.out, ← HF.out]
        exact ⟨rfl, below_nextN hbw hq hbw.size⟩
      · have HF := Lib.hid (found_no (l := l) (x := x) (fun k h => HLO.out k h (by omega)))
        go_wp2
        refine wp_region_bel (by kernel_rfl) (by kernel_rfl) ?_; (repeat (go_big_quiet_step (fail))); refine wpQuiet_nil ?_; intro wq hq
        go_wp2
        go_ret2
        rw [HK.out, HF.out]
        exact ⟨rfl, below_nextN hbw hq hbw.size⟩
/-- The closure of includes: whether an identifier is in the scope's subject. -/
structure InScope (w : World) (p g : Nat) (x : Hold) (A : Option Addr) (c : Nat) (o : List Ident) : Prop where
  ptr : Blk w p 113 #[.pointer (some ⟨g, 0, none⟩)]
  scope : Blk w g 104 (scopeCells x (.slice A o.length c))
  subj : SliceIs w w.heap.size Ident.cells 4 A o
theorem InScope.next {w w' : World} {p g : Nat} {x : Hold} {A : Option Addr} {c : Nat} {o : List Ident} (h : InScope w p g x A c o) (hb : Below w.heap.size w w') : InScope w' p g x A c o :=
  ⟨h.ptr.below hb h.ptr.lt, h.scope.below hb h.scope.lt, h.subj.next hb⟩
set_option maxRecDepth 100000 in
set_option maxHeartbeats 1000000 in
theorem includes_fn (p g : Nat) (h : Hold) (A : Option Addr) (c : Nat) (o : List Ident) (x : Ident) (w : World) (hI : InScope w p g h A c o) (hn : o.length ≤ 1000000) (ha : Asc o) (hv : AllValid o) {r : Bool} (hr : decide (x ∈ o) = r) :
    Calls Try.prog 98 #[.agg #[.string x.ns, .int .i64 x.val.kind, .int .i64 x.val.num, .string x.val.text], .pointer (some ⟨p, 0, none⟩)] w fun e w' =>
      e = .returned (.bool r) ∧ Below w.heap.size w w' := by
  have hpl := hI.ptr.lt
  have hgl := hI.scope.lt
  have HI := Lib.hid hI
  have HA := Lib.hid ha
  have HV := Lib.hid hv
  have HR := Lib.hid hr
  clear hI ha hv hr
  go_enter Try.func98, Try.ntmps98
  go_upto_region 1 with (fail)
  refine abs_world (P := fun u => Code.wp _ _ _ _ u) (R := fun u => InScope u p g h A c o ∧ Blk u w.heap.size 27 x.cells.toArray ∧ Below w.heap.size w u) ⟨?_, ?_, ?_⟩ ?_
  · exact HI.out.next (by repeat (first | with_reducible exact Below.refl _ _ | with_reducible assumption | (with_reducible refine Below.setCell ?_ ?_ _; rotate_left; focus (first | exact Nat.le_refl _ | exact Nat.le_add_right _ _ | (simp; done) | (simp; omega) | omega)) | (with_reducible refine Below.alloc ?_ ?_ _; rotate_left; focus (first | exact Nat.le_refl _ | exact Nat.le_add_right _ _ | (simp; done) | (simp; omega) | omega)) | with_reducible refine Below.drew ?_ | with_reducible refine below_drewN ?_ _ | (with_reducible refine below_nextN ?_ (by with_reducible assumption) ?_; rotate_left; focus (first | exact Nat.le_refl _ | exact Nat.le_add_right _ _ | (simp; done) | (simp; omega) | omega))))
  · exact Blk.new _ _ _
  · repeat (first | with_reducible exact Below.refl _ _ | with_reducible assumption | (with_reducible refine Below.setCell ?_ ?_ _; rotate_left; focus (first | exact Nat.le_refl _ | exact Nat.le_add_right _ _ | (simp; done) | (simp; omega) | omega)) | (with_reducible refine Below.alloc ?_ ?_ _; rotate_left; focus (first | exact Nat.le_refl _ | exact Nat.le_add_right _ _ | (simp; done) | (simp; omega) | omega)) | with_reducible refine Below.drew ?_ | with_reducible refine below_drewN ?_ _ | (with_reducible refine below_nextN ?_ (by with_reducible assumption) ?_; rotate_left; focus (first | exact Nat.le_refl _ | exact Nat.le_add_right _ _ | (simp; done) | (simp; omega) | omega)))
  rintro W ⟨hi, hb2, hbW⟩
  obtain ⟨_, _, _, _, _, _, s9⟩ := scope_blk hi.scope
  have p0 := hi.ptr.cell 0
  simp only [List.getElem?_toArray, List.getElem?_cons_zero] at p0
  obtain ⟨q0, q1, q2, q3⟩ := Ident.blk hb2
  have hk0 := keepQ (w := W) p hi.ptr.lt
  have hk1 := keepQ (w := W) g hi.scope.lt
  have hk2 := keepQ (w := W) w.heap.size hb2.lt
  have HSW := Lib.hid hi.subj
  clear hi hb2 HI
  refine wp_region_bel (by kernel_rfl) (by kernel_rfl) ?_; (repeat (go_big_quiet_step ((go_at_call 82; with_reducible exact bel_of (search_has A c o.length o x _ (HSW.out.next (BelOf.h _)) rfl hn HA.out HV.out HR.out))))); refine wpQuiet_nil ?_; intro wq hq
  go_wp2_with fail
  go_ret
  exact ⟨rfl, below_nextN hbW hq hbW.size⟩
set_option maxRecDepth 100000 in
set_option maxHeartbeats 1000000 in
theorem index_in (p g : Nat) (h : Hold) (A : Option Addr) (c : Nat) (o : List Ident) (A' : Option Addr) (c' : Nat) (l : List Ident) (w : World) (hI : InScope w p g h A c o) (hn : o.length ≤ 1000000) (ha : Asc o) (hv : AllValid o) (hl : SliceIs w w.heap.size Ident.cells 4 A' l) (hn' : l.length ≤ 1000000) :
    Calls Try.prog 110 #[.slice A' l.length c', .func (.func 98) #[] #[.pointer (some ⟨p, 0, none⟩)]] w fun e w' =>
      (∃ k : Int, e = .returned (.int .i64 k) ∧ (0 ≤ k ↔ l.any (fun y => decide (y ∈ o)) = true)) ∧ Below w.heap.size w w' := by
  have HI := Lib.hid hI
  have HA := Lib.hid ha
  have HV := Lib.hid hv
  clear hI ha hv
  go_enter Try.func110, Try.ntmps110
  go_wp2
  go_loopw [8] (fun vi wr => ∃ m : Nat, m ≤ l.length ∧ vi = .int .i64 m ∧ Below w.heap.size w wr ∧ (∀ i (h : i < l.length), i < m → decide (l[i] ∈ o) = false)) (fun vi _ => l.length - (intOf vi).toNat)
  case atStart => exact ⟨0, Nat.zero_le _, rfl, by repeat (first | with_reducible exact Below.refl _ _ | with_reducible assumption | (with_reducible refine Below.setCell ?_ ?_ _; rotate_left; focus (first | exact Nat.le_refl _ | exact Nat.le_add_right _ _ | (simp; done) | (simp; omega) | omega)) | (with_reducible refine Below.alloc ?_ ?_ _; rotate_left; focus (first | exact Nat.le_refl _ | exact Nat.le_add_right _ _ | (simp; done) | (simp; omega) | omega)) | with_reducible refine Below.drew ?_ | with_reducible refine below_drewN ?_ _ | (with_reducible refine below_nextN ?_ (by with_reducible assumption) ?_; rotate_left; focus (first | exact Nat.le_refl _ | exact Nat.le_add_right _ _ | (simp; done) | (simp; omega) | omega))), fun i _ h => by omega⟩
  case round =>
    obtain ⟨m, hm, rfl, hbw, hok⟩ := hrel
    have HOK := Lib.hid hok
    clear hok
    by_cases hlt : m < l.length
    · obtain ⟨b, of_, rfl, hb, hc⟩ := (hl.below hbw).get hlt
      obtain ⟨h0, h1, h2, h3⟩ := Ident.cells4 hc
      clear hc
      cases hk : decide (l[m] ∈ o)
      · have HK := Lib.hid hk
        clear hk
        go_wp2_with (go_at_call 98; (with_reducible refine (includes_fn p g h A c o l[m] _ (HI.out.next hbw) hn HA.out HV.out HK.out).mono ?_); rintro e w1 ⟨rfl, hb1⟩; have hx1 : Below w.heap.size w w1 := below_nextN hbw hb1 hbw.size)
        go_roundw
        case rel => exact ⟨m + 1, by omega, by go_num, hx1, fun i h hi => by
          rcases Nat.lt_or_ge i m with h1 | h1
          · exact HOK.out i h h1
          · obtain rfl : i = m := by omega
            exact HK.out⟩
        case measure => simp [intOf]; omega
      · have HK := Lib.hid hk
        clear hk
        go_wp2_with (go_at_call 98; (with_reducible refine (includes_fn p g h A c o l[m] _ (HI.out.next hbw) hn HA.out HV.out HK.out).mono ?_); rintro e w1 ⟨rfl, hb1⟩; have hx1 : Below w.heap.size w w1 := below_nextN hbw hb1 hbw.size)
        go_ret
        refine ⟨⟨_, rfl, fun _ => ?_, fun _ => by omega⟩, hx1⟩
        rw [List.any_eq_true]
        exact ⟨l[m], List.getElem_mem hlt, HK.out⟩
    · have hlt' : decide (m < l.length) = false := by simpa using hlt
      go_wp2_with fail
      go_ret
      refine ⟨⟨_, rfl, fun h => by omega, fun h => ?_⟩, hbw⟩
      rw [List.any_eq_true] at h
      obtain ⟨x, hx, hxx⟩ := h
      obtain ⟨i, hi, rfl⟩ := List.getElem_of_mem hx
      rw [HOK.out i hi (by omega)] at hxx
      cases hxx
set_option maxRecDepth 100000 in
theorem contains_in (p g : Nat) (h : Hold) (A : Option Addr) (c : Nat) (o : List Ident) (A' : Option Addr) (c' : Nat) (l : List Ident) (w : World) (hI : InScope w p g h A c o) (hn : o.length ≤ 1000000) (ha : Asc o) (hv : AllValid o) (hl : SliceIs w w.heap.size Ident.cells 4 A' l) (hn' : l.length ≤ 1000000) :
    Calls Try.prog 97 #[.slice A' l.length c', .func (.func 98) #[] #[.pointer (some ⟨p, 0, none⟩)]] w fun e w' =>
      e = .returned (.bool (l.any (fun y => decide (y ∈ o)))) ∧ Below w.heap.size w w' := by
  have HI := Lib.hid hI
  have HA := Lib.hid ha
  have HV := Lib.hid hv
  have HL := Lib.hid hl
  clear hI ha hv hl
  go_enter Try.func97, Try.ntmps97
  go_wp2_with fail
  with_reducible refine (index_in p g h A c o A' c' l _ HI.out hn HA.out HV.out HL.out hn').mono ?_
  rintro e w1 ⟨⟨k, rfl, hk⟩, hb1⟩
  have HK := Lib.hid hk
  clear hk
  go_wp2_with fail
  go_ret
  refine ⟨ret_bool ?_, hb1⟩
  rw [Bool.eq_iff_iff, ← HK.out]
  simp
set_option maxRecDepth 100000 in
set_option maxHeartbeats 1000000 in
theorem scope_includes (g : Nat) (x : Hold) (A : Option Addr) (c : Nat) (o : List Ident) (A' : Option Addr) (c' : Nat) (l : List Ident) (w : World) (hB : Blk w g 104 (scopeCells x (.slice A o.length c))) (hso : SliceIs w w.heap.size Ident.cells 4 A o) (hn : o.length ≤ 1000000) (ha : Asc o) (hv : AllValid o) (hl : SliceIs w w.heap.size Ident.cells 4 A' l) (hn' : l.length ≤ 1000000) :
    Calls Try.prog 86 #[.pointer (some ⟨g, 0, none⟩), .slice A' l.length c'] w fun e w' =>
      e = .returned (.bool (decide (x.who = noId) || l.any (fun y => decide (y ∈ o)))) ∧ Below w.heap.size w w' := by
  have hgt : Try.prog.eqGuardType Try.prog.depth 27 = false := by kernel_rfl
  have hgl := hB.lt
  obtain ⟨_, _, ⟨s2, s3, s4, s5⟩, _, _, _, _⟩ := scope_blk hB
  have HB := Lib.hid hB
  have HO := Lib.hid hso
  have HA := Lib.hid ha
  have HV := Lib.hid hv
  have HL := Lib.hid hl
  clear hB ha hv hl hso
  cases hw : decide (x.who = noId)
  · have heq := eqlNo hw
    clear hw
    go_enter Try.func86, Try.ntmps86
    go_wp2_with fail
    with_reducible refine (contains_in w.heap.size g x A c o A' c' l _ ⟨Blk.new _ _ _, HB.out.alloc _, HO.out.next (by repeat (first | with_reducible exact Below.refl _ _ | with_reducible assumption | (with_reducible refine Below.setCell ?_ ?_ _; rotate_left; focus (first | exact Nat.le_refl _ | exact Nat.le_add_right _ _ | (simp; done) | (simp; omega) | omega)) | (with_reducible refine Below.alloc ?_ ?_ _; rotate_left; focus (first | exact Nat.le_refl _ | exact Nat.le_add_right _ _ | (simp; done) | (simp; omega) | omega)) | with_reducible refine Below.drew ?_ | with_reducible refine below_drewN ?_ _ | (with_reducible refine below_nextN ?_ (by with_reducible assumption) ?_; rotate_left; focus (first | exact Nat.le_refl _ | exact Nat.le_add_right _ _ | (simp; done) | (simp; omega) | omega))))⟩ hn HA.out HV.out (HL.out.next (by repeat (first | with_reducible exact Below.refl _ _ | with_reducible assumption | (with_reducible refine Below.setCell ?_ ?_ _; rotate_left; focus (first | exact Nat.le_refl _ | exact Nat.le_add_right _ _ | (simp; done) | (simp; omega) | omega)) | (with_reducible refine Below.alloc ?_ ?_ _; rotate_left; focus (first | exact Nat.le_refl _ | exact Nat.le_add_right _ _ | (simp; done) | (simp; omega) | omega)) | with_reducible refine Below.drew ?_ | with_reducible refine below_drewN ?_ _ | (with_reducible refine below_nextN ?_ (by with_reducible assumption) ?_; rotate_left; focus (first | exact Nat.le_refl _ | exact Nat.le_add_right _ _ | (simp; done) | (simp; omega) | omega))))) hn').mono ?_
    rintro e w1 ⟨rfl, hb1⟩
    go_wp2_with fail
    go_ret
    exact ⟨rfl, below_nextN (by repeat (first | with_reducible exact Below.refl _ _ | with_reducible assumption | (with_reducible refine Below.setCell ?_ ?_ _; rotate_left; focus (first | exact Nat.le_refl _ | exact Nat.le_add_right _ _ | (simp; done) | (simp; omega) | omega)) | (with_reducible refine Below.alloc ?_ ?_ _; rotate_left; focus (first | exact Nat.le_refl _ | exact Nat.le_add_right _ _ | (simp; done) | (simp; omega) | omega)) | with_reducible refine Below.drew ?_ | with_reducible refine below_drewN ?_ _ | (with_reducible refine below_nextN ?_ (by with_reducible assumption) ?_; rotate_left; focus (first | exact Nat.le_refl _ | exact Nat.le_add_right _ _ | (simp; done) | (simp; omega) | omega)))) hb1 (by first | exact Nat.le_refl _ | exact Nat.le_add_right _ _ | assumption | (simp; done) | (simp; omega) | omega)⟩
  · have heq := eqlNo hw
    clear hw
    go_enter Try.func86, Try.ntmps86
    go_wp2_with fail
    go_ret
    exact ⟨rfl, by repeat (first | with_reducible exact Below.refl _ _ | with_reducible assumption | (with_reducible refine Below.setCell ?_ ?_ _; rotate_left; focus (first | exact Nat.le_refl _ | exact Nat.le_add_right _ _ | (simp; done) | (simp; omega) | omega)) | (with_reducible refine Below.alloc ?_ ?_ _; rotate_left; focus (first | exact Nat.le_refl _ | exact Nat.le_add_right _ _ | (simp; done) | (simp; omega) | omega)) | with_reducible refine Below.drew ?_ | with_reducible refine below_drewN ?_ _ | (with_reducible refine below_nextN ?_ (by with_reducible assumption) ?_; rotate_left; focus (first | exact Nat.le_refl _ | exact Nat.le_add_right _ _ | (simp; done) | (simp; omega) | omega)))⟩
theorem SliceIs.setSlice {w : World} {B g j n c : Nat} {a A : Option Addr} {l : List Ident} (h : SliceIs w B Ident.cells 4 A l) (hc : w.cell? ⟨g, j, none⟩ = some (.slice a n c)) (v : Value) : SliceIs (w.setCell ⟨g, j, none⟩ v) B Ident.cells 4 A l := by
  intro hl
  obtain ⟨b, o, rfl, hB, hcl⟩ := h hl
  refine ⟨b, o, rfl, hB, fun i hi k u hu => ?_⟩
  have h1 := hcl i hi k u hu
  by_cases he : b = g ∧ o + (i * 4 + k) = j
  · obtain ⟨rfl, rfl⟩ := he
    rw [hc] at h1
    injection h1 with h1
    subst h1
    have hk : k < 4 := by have := (List.getElem?_eq_some_iff.1 hu).1; simpa [Ident.cells] using this
    match k, hk, hu with
    | 0, _, hu => simp [Ident.cells] at hu
    | 1, _, hu => simp [Ident.cells] at hu
    | 2, _, hu => simp [Ident.cells] at hu
    | 3, _, hu => simp [Ident.cells] at hu
  · rw [← h1]
    apply World.cell?_setCell_other
    intro e
    injection e with e1 e2
    exact he ⟨e1.symm, e2.symm⟩
set_option maxRecDepth 100000 in
set_option maxHeartbeats 1000000 in
theorem scope_limit (g : Nat) (x : Hold) (A : Option Addr) (c : Nat) (l : List Link) (w : World) (hB : Blk w g 104 (scopeCells x (.slice none 0 0))) (hl : SliceIs w w.heap.size Link.cells 10 A l) (hn : l.length ≤ 1000000) (hs : Sane l) (hsx : x.who.ns.size ≤ 1000000) (hseq : x.seq ≤ 9223372036854775807) :
    Calls Try.prog 85 #[.pointer (some ⟨g, 0, none⟩), .slice A l.length c] w fun e w' =>
      e = .returned (.tuple #[]) ∧ (∃ o A' c', (x.who = noId → o = []) ∧ (x.who ≠ noId → SubjectOut l x.who x.seq o) ∧ Blk w' g 104 (scopeCells x (.slice A' o.length c')) ∧ SliceIs w' w'.heap.size Ident.cells 4 A' o) ∧ w.grownBy w' (some g) := by
  have hgt : Try.prog.eqGuardType Try.prog.depth 27 = false := by kernel_rfl
  have hgl := hB.lt
  obtain ⟨_, _, ⟨s2, s3, s4, s5⟩, s6, _, _, s9⟩ := scope_blk hB
  have fz0 := hB.frozen 9
  have HB := Lib.hid hB
  have HS := Lib.hid hs
  have HL := Lib.hid hl
  clear hB hs hl
  cases hw : decide (x.who = noId)
  · have heq := eqlNo hw
    have hw' : x.who ≠ noId := by simpa using hw
    have HW := Lib.hid hw'
    clear hw hw'
    go_enter Try.func85, Try.ntmps85
    go_upto_region 1 with (fail)
    refine wp_region_held_drew (S := (fun w' => w'.cell? ⟨g, 2, none⟩ = some (.string x.who.ns) ∧ w'.cell? ⟨g, 3, none⟩ = some (.int .i64 x.who.val.kind) ∧ w'.cell? ⟨g, 4, none⟩ = some (.int .i64 x.who.val.num) ∧ w'.cell? ⟨g, 5, none⟩ = some (.string x.who.val.text) ∧ w'.cell? ⟨g, 6, none⟩ = some (.int .i64 x.seq))) (by kernel_rfl) ⟨s2, s3, s4, s5, s6⟩ (fun hHeld => ?_)
    refine wpAnyH_take (i := 0) (v := ?_) rfl (by kernel_rfl) (by kernel_rfl) (by kernel_rfl) (fun _ _ _ h => h) (Or.inl ⟨by kernel_rfl, ?_⟩) hHeld ?_
    rotate_left
    · (intro w hSw; (try dsimp only at hSw); go_simp; first | done | with_reducible rfl)
    (try simp only [Act.put, List.getElem_toArray, List.getElem_cons_zero, List.setIfInBounds_toArray, List.set_cons_zero, List.set_cons_succ])
    refine wpAnyH_take (i := 1) (v := ?_) rfl (by kernel_rfl) (by kernel_rfl) (by kernel_rfl) (fun _ _ _ h => h) (Or.inl ⟨by kernel_rfl, ?_⟩) hHeld ?_
    rotate_left
    · (intro w hSw; (try dsimp only at hSw); go_simp; first | done | with_reducible rfl)
    (try simp only [Act.put, List.getElem_toArray, List.getElem_cons_zero, List.getElem_cons_succ, List.setIfInBounds_toArray, List.set_cons_zero, List.set_cons_succ])
    refine wpAnyH_take (i := 2) (v := ?_) rfl (by kernel_rfl) (by kernel_rfl) (by kernel_rfl) (fun _ _ _ h => h) (Or.inl ⟨by kernel_rfl, ?_⟩) hHeld ?_
    rotate_left
    · (intro w hSw; (try dsimp only at hSw); go_simp; first | done | with_reducible rfl)
    (try simp only [Act.put, List.getElem_toArray, List.getElem_cons_zero, List.getElem_cons_succ, List.setIfInBounds_toArray, List.set_cons_zero, List.set_cons_succ])
    refine wpAnyH_take (i := 3) (v := ?_) rfl (by kernel_rfl) (by kernel_rfl) (by kernel_rfl) (fun _ _ _ h => h) (Or.inl ⟨by kernel_rfl, ?_⟩) hHeld ?_
    rotate_left
    · (intro w hSw; (try dsimp only at hSw); go_simp; first | done | with_reducible rfl)
    (try simp only [Act.put, List.getElem_toArray, List.getElem_cons_zero, List.getElem_cons_succ, List.setIfInBounds_toArray, List.set_cons_zero, List.set_cons_succ])
    refine wpAnyH_take (i := 4) (v := ?_) rfl (by kernel_rfl) (by kernel_rfl) (by kernel_rfl) (fun _ _ _ h => h) (Or.inl ⟨by kernel_rfl, ?_⟩) hHeld ?_
    rotate_left
    · (intro w hSw; (try dsimp only at hSw); go_simp; first | done | with_reducible rfl)
    (try simp only [Act.put, List.getElem_toArray, List.getElem_cons_zero, List.getElem_cons_succ, List.setIfInBounds_toArray, List.set_cons_zero, List.set_cons_succ])
    refine wpAnyH_take (i := 5) (v := ?_) rfl (by kernel_rfl) (by kernel_rfl) (by kernel_rfl) (fun _ _ _ h => h) (Or.inl ⟨by kernel_rfl, ?_⟩) hHeld ?_
    rotate_left
    · (intro w hSw; (try dsimp only at hSw); go_simp; first | done | with_reducible rfl)
    (try simp only [Act.put, List.getElem_toArray, List.getElem_cons_zero, List.getElem_cons_succ, List.setIfInBounds_toArray, List.set_cons_zero, List.set_cons_succ])
    refine wpAnyH_take (i := 6) (v := ?_) rfl (by kernel_rfl) (by kernel_rfl) (by kernel_rfl) (fun _ _ _ h => h) (Or.inl ⟨by kernel_rfl, ?_⟩) hHeld ?_
    rotate_left
    · (intro w hSw; (try dsimp only at hSw); go_simp; first | done | with_reducible rfl)
    (try simp only [Act.put, List.getElem_toArray, List.getElem_cons_zero, List.getElem_cons_succ, List.setIfInBounds_toArray, List.set_cons_zero, List.set_cons_succ])
    refine wpAnyH_take (i := 7) (v := ?_) rfl (by kernel_rfl) (by kernel_rfl) (by kernel_rfl) (fun _ _ _ h => h) (Or.inl ⟨by kernel_rfl, ?_⟩) hHeld ?_
    rotate_left
    · (intro w hSw; (try dsimp only at hSw); go_simp; first | done | with_reducible rfl)
    (try simp only [Act.put, List.getElem_toArray, List.getElem_cons_zero, List.getElem_cons_succ, List.setIfInBounds_toArray, List.set_cons_zero, List.set_cons_succ])
    refine wpAnyH_take (i := 8) (v := ?_) rfl (by kernel_rfl) (by kernel_rfl) (by kernel_rfl) (fun _ _ _ h => h) (Or.inl ⟨by kernel_rfl, ?_⟩) hHeld ?_
    rotate_left
    · (intro w hSw; (try dsimp only at hSw); go_simp; first | done | with_reducible rfl)
    (try simp only [Act.put, List.getElem_toArray, List.getElem_cons_zero, List.getElem_cons_succ, List.setIfInBounds_toArray, List.set_cons_zero, List.set_cons_succ])
    refine wpAnyH_take (i := 9) (v := ?_) rfl (by kernel_rfl) (by kernel_rfl) (by kernel_rfl) (fun _ _ _ h => h) (Or.inl ⟨by kernel_rfl, ?_⟩) hHeld ?_
    rotate_left
    · (intro w hSw; (try dsimp only at hSw); go_simp; first | done | with_reducible rfl)
    (try simp only [Act.put, List.getElem_toArray, List.getElem_cons_zero, List.getElem_cons_succ, List.setIfInBounds_toArray, List.set_cons_zero, List.set_cons_succ])
    refine wpAnyH_take (i := 10) (v := ?_) rfl (by kernel_rfl) (by kernel_rfl) (by kernel_rfl) (fun _ _ _ h => h) (Or.inl ⟨by kernel_rfl, ?_⟩) hHeld ?_
    rotate_left
    · (intro w hSw; (try dsimp only at hSw); go_simp; first | done | with_reducible rfl)
    (try simp only [Act.put, List.getElem_toArray, List.getElem_cons_zero, List.getElem_cons_succ, List.setIfInBounds_toArray, List.set_cons_zero, List.set_cons_succ])
    refine wpAnyH_take (i := 11) (v := ?_) rfl (by kernel_rfl) (by kernel_rfl) (by kernel_rfl) (fun _ _ _ h => h) (Or.inl ⟨by kernel_rfl, ?_⟩) hHeld ?_
    rotate_left
    · (intro w hSw; (try dsimp only at hSw); go_simp; first | done | with_reducible rfl)
    (try simp only [Act.put, List.getElem_toArray, List.getElem_cons_zero, List.getElem_cons_succ, List.setIfInBounds_toArray, List.set_cons_zero, List.set_cons_succ])
    refine wpAnyH_ready (rs := [12]) (by kernel_rfl) (by simp) ?_
    refine AllReadyH.cons rfl (fun K hK => ?_) AllReadyH.nil
    go_simp
    (go_at_call 19; (with_reducible refine (identity_SubjectN A c l.length l x.who x.seq _ (HL.out.next (by repeat (first | with_reducible exact Below.refl _ _ | with_reducible assumption | (with_reducible refine Below.setCell ?_ ?_ _; rotate_left; focus (first | exact Nat.le_refl _ | exact Nat.le_add_right _ _ | (simp; done) | (simp; omega) | omega)) | (with_reducible refine Below.alloc ?_ ?_ _; rotate_left; focus (first | exact Nat.le_refl _ | exact Nat.le_add_right _ _ | (simp; done) | (simp; omega) | omega)) | with_reducible refine Below.drew ?_ | with_reducible refine below_drewN ?_ _ | (with_reducible refine below_nextN ?_ (by with_reducible assumption) ?_; rotate_left; focus (first | exact Nat.le_refl _ | exact Nat.le_add_right _ _ | (simp; done) | (simp; omega) | omega))))) rfl hn HS.out hsx hseq).mono ?_); rintro e w1 ⟨⟨o, A', c', ho, rfl, hso⟩, hb1⟩; have hx1 : Below w.heap.size w w1 := (by repeat (first | with_reducible exact Below.refl _ _ | with_reducible assumption | (with_reducible refine Below.setCell ?_ ?_ _; rotate_left; focus (first | exact Nat.le_refl _ | exact Nat.le_add_right _ _ | (simp; done) | (simp; omega) | omega)) | (with_reducible refine Below.alloc ?_ ?_ _; rotate_left; focus (first | exact Nat.le_refl _ | exact Nat.le_add_right _ _ | (simp; done) | (simp; omega) | omega)) | with_reducible refine Below.drew ?_ | with_reducible refine below_drewN ?_ _ | (with_reducible refine below_nextN ?_ (by with_reducible assumption) ?_; rotate_left; focus (first | exact Nat.le_refl _ | exact Nat.le_add_right _ _ | (simp; done) | (simp; omega) | omega)))); obtain ⟨k1, f1, z1⟩ := keepB hx1 g hgl; have fz1 : ∀ j, w1.frozen? ⟨g, j, none⟩ = false := fun j => (f1 j).trans (HB.out.frozen j); have HO := Lib.hid ho; have HSO := Lib.hid hso; clear ho hso)
    go_wp2_with fail
    refine hK.out _ _ ⟨?_, ?_, ?_, ?_, ?_⟩ (fun hHeld => ?_)
    iterate 5 (simp only [*])
    clear hK K
    (try simp only [Act.put, List.getElem_toArray, List.getElem_cons_zero, List.getElem_cons_succ, List.setIfInBounds_toArray, List.set_cons_zero, List.set_cons_succ])
    refine wpAnyH_take (i := 13) (v := ?_) rfl (by kernel_rfl) (by kernel_rfl) (by kernel_rfl) (fun _ _ _ h => h) (Or.inl ⟨by kernel_rfl, ?_⟩) hHeld ?_
    rotate_left
    · (intro w hSw; (try dsimp only at hSw); go_simp; first | done | with_reducible rfl)
    (try simp only [Act.put, List.getElem_toArray, List.getElem_cons_zero, List.getElem_cons_succ, List.setIfInBounds_toArray, List.set_cons_zero, List.set_cons_succ])
    refine wpAnyH_take (i := 14) (v := ?_) rfl (by kernel_rfl) (by kernel_rfl) (by kernel_rfl) (fun _ _ _ h => h) (Or.inl ⟨by kernel_rfl, ?_⟩) hHeld ?_
    rotate_left
    · (intro w hSw; (try dsimp only at hSw); go_simp; first | done | with_reducible rfl)
    (try simp only [Act.put, List.getElem_toArray, List.getElem_cons_zero, List.getElem_cons_succ, List.setIfInBounds_toArray, List.set_cons_zero, List.set_cons_succ])
    refine wpAnyH_ready (rs := [15]) (by kernel_rfl) (by simp) ?_
    refine AllReadyH.cons rfl (fun K hK => ?_) AllReadyH.nil
    go_simp
    have k9 := (k1 9).trans s9
    have hB1 : Blk w1 g 104 (scopeCells x (.slice none 0 0)) := HB.out.below hx1 hgl
    have hB2 : Blk (w1.setCell ⟨g, 9, none⟩ (.slice A' o.length c')) g 104 (scopeCells x (.slice A' o.length c')) := (hB1.set_ 9 _).eq (by simp [scopeCells, Hold.cells])
    obtain ⟨_, _, ⟨r2, r3, r4, r5⟩, r6, _, _, _⟩ := scope_blk hB2
    have HB2 := Lib.hid hB2
    clear hB1 hB2
    go_wp2_with fail
    refine hK.out _ _ ⟨r2, r3, r4, r5, r6⟩ (fun hHeld => ?_)
    clear hK K
    (try simp only [Act.put, List.getElem_toArray, List.getElem_cons_zero, List.getElem_cons_succ, List.setIfInBounds_toArray, List.set_cons_zero, List.set_cons_succ])
    refine wpAnyH_done (by kernel_rfl) ?_ _
    go_wp2_with fail
    first | go_end0 | (refine bodyPost_ret (results_none rfl _ _ _) rfl ?_)
    exact ⟨rfl, ⟨o, A', c', fun h => absurd h HW.out, fun _ => HO.out, HB2.out, SliceIs.mono (HSO.out.setSlice k9 _) (by simp [World.setCell])⟩, only_setCell (only_of_below hx1 _) (.inl rfl) _⟩
  · have heq := eqlNo hw
    have hw' : x.who = noId := by simpa using hw
    have HW := Lib.hid hw'
    clear hw hw'
    go_enter Try.func85, Try.ntmps85
    go_wp2_with fail
    first | go_end0 | (refine bodyPost_ret (results_none rfl _ _ _) rfl ?_)
    exact ⟨rfl, ⟨[], none, 0, fun _ => rfl, fun h => absurd HW.out h, HB.out, SliceIs.nil⟩, World.grownBy.refl _ _⟩
theorem named_valid {l : List Link} {a y : Ident} (hv : validLinks l = true) (ha : validId a = true) (hy : y ∈ named l a) : validId y = true := by
  unfold named at hy
  rcases List.mem_cons.1 hy with rfl | hy
  · exact ha
  · obtain ⟨x, hx, hxy⟩ := List.mem_flatMap.1 hy
    have h := validLinks_mem hv x hx
    simp at hxy
    rcases hxy with rfl | rfl
    · exact h.2.2.1
    · exact h.2.2.2.1
theorem subject_good {l : List Link} {who : Ident} {seq : Int} {o : List Ident} (h : SubjectOut l who seq o) : Asc o ∧ AllValid o := by
  unfold SubjectOut at h
  split at h
  · rename_i hh
    simp only [Bool.and_eq_true] at hh
    refine ⟨h.1, fun y hy => ?_⟩
    rcases (h.2 y).1 hy with h1 | ⟨_, _, _, h1⟩
    · exact named_valid hh.1 hh.2 h1.named
    · exact named_valid hh.1 hh.2 h1.named
  · subst h
    exact ⟨List.Pairwise.nil, fun y hy => by cases hy⟩
noncomputable def inSubject (l : List Link) (who : Ident) (seq : Int) (own : List Ident) : Bool := @decide (∃ o, SubjectOut l who seq o ∧ own.any (fun y => decide (y ∈ o)) = true) (Classical.propDecidable _)
theorem inSubject_eq {l : List Link} {who : Ident} {seq : Int} {own o : List Ident} (h : SubjectOut l who seq o) : inSubject l who seq own = own.any (fun y => decide (y ∈ o)) := by
  rw [Bool.eq_iff_iff, inSubject, @decide_eq_true_iff _ (Classical.propDecidable _)]
  exact ⟨fun ⟨o', h', k⟩ => by rw [h.unique h']; exact k, fun k => ⟨o, h, k⟩⟩
/-- Whether a hold covers a version. -/
noncomputable def coversB (x : Hold) (l : List Link) (t c : Int) (own : List Ident) : Bool := concernsB x t c && (decide (x.who = noId) || inSubject l x.who x.seq own)
theorem covers_eq {x : Hold} {l : List Link} {t c : Int} {own o : List Ident} (hc : concernsB x t c = true) (h1 : x.who = noId → o = []) (h2 : x.who ≠ noId → SubjectOut l x.who x.seq o) : (decide (x.who = noId) || own.any (fun y => decide (y ∈ o))) = coversB x l t c own := by
  unfold coversB
  rw [hc, Bool.true_and]
  by_cases h : x.who = noId
  · simp [h]
  · rw [inSubject_eq (h2 h)]
theorem scope_good {x : Hold} {l : List Link} {o : List Ident} (h1 : x.who = noId → o = []) (h2 : x.who ≠ noId → SubjectOut l x.who x.seq o) : Asc o ∧ AllValid o ∧ o.length ≤ 1000000 := by
  by_cases h : x.who = noId
  · rw [h1 h]
    exact ⟨List.Pairwise.nil, fun y hy => (by cases hy), by simp⟩
  · exact ⟨(subject_good (h2 h)).1, (subject_good (h2 h)).2, subject_len (h2 h)⟩
theorem SliceIs.grownL {α : Type} {w w' : World} {B g : Nat} {enc : α → List Value} {k : Nat} {A : Option Addr} {l : List α} (h : SliceIs w B enc k A l) (hg : w.grownBy w' (some g)) (hB : B ≤ g) (hw : B ≤ w.heap.size) : SliceIs w' B enc k A l := by
  intro hl
  obtain ⟨b, o, rfl, hb, hc⟩ := h hl
  exact ⟨b, o, rfl, hb, fun i hi j u hu => (World.cell?_of_block (hg.block b (by omega) (fun e => by injection e with e; omega))).trans (hc i hi j u hu)⟩
set_option maxRecDepth 100000 in
set_option maxHeartbeats 1000000 in
theorem hold_covers (x : Hold) (A : Option Addr) (c n : Nat) (l : List Link) (t col sq rec day : Int) (A' : Option Addr) (c' n' : Nat) (own : List Ident) (nul lst : Bool) (w : World) (hl : SliceIs w w.heap.size Link.cells 10 A l) (hln : l.length = n) (hn : n ≤ 1000000) (hs : Sane l) (hsx : x.who.ns.size ≤ 1000000) (hseq : x.seq ≤ 9223372036854775807) (ho : SliceIs w w.heap.size Ident.cells 4 A' own) (hon : own.length = n') (hn' : n' ≤ 1000000) {r : Bool} (hr : coversB x l t col own = r) :
    Calls Try.prog 63 #[.agg #[.int .i64 x.table, .int .i64 x.column, .string x.who.ns, .int .i64 x.who.val.kind, .int .i64 x.who.val.num, .string x.who.val.text, .int .i64 x.seq, .int .i64 x.day0, .int .i64 x.day1], .slice A n c, .agg #[.int .i64 t, .int .i64 col, .int .i64 sq, .int .i64 rec, .int .i64 day, .slice A' n' c', .bool nul, .bool lst]] w fun e w' =>
      e = .returned (.bool r) ∧ Below w.heap.size w w' := by
  subst hln hon hr
  have HS := Lib.hid hs
  have HL := Lib.hid hl
  have HO := Lib.hid ho
  clear hs hl ho
  go_enter Try.func63, Try.ntmps63
  go_upto_region 2 with (fail)
  refine abs_world (P := fun u => Code.wp _ _ _ _ u) (R := fun u => Blk u (w.heap.size + 1) 58 #[.int .i64 t, .int .i64 col, .int .i64 sq, .int .i64 rec, .int .i64 day, .slice A' own.length c', .bool nul, .bool lst] ∧ Blk u (w.heap.size + 1 + 1) 104 (scopeCells x (.slice none 0 0)) ∧ Below w.heap.size w u) ⟨?_, ?_, ?_⟩ ?_
  · exact (Blk.new' (by simp)).alloc _
  · exact Blk.new' (by simp)
  · repeat (first | with_reducible exact Below.refl _ _ | with_reducible assumption | (with_reducible refine Below.setCell ?_ ?_ _; rotate_left; focus (first | exact Nat.le_refl _ | exact Nat.le_add_right _ _ | (simp; done) | (simp; omega) | omega)) | (with_reducible refine Below.alloc ?_ ?_ _; rotate_left; focus (first | exact Nat.le_refl _ | exact Nat.le_add_right _ _ | (simp; done) | (simp; omega) | omega)) | with_reducible refine Below.drew ?_ | with_reducible refine below_drewN ?_ _ | (with_reducible refine below_nextN ?_ (by with_reducible assumption) ?_; rotate_left; focus (first | exact Nat.le_refl _ | exact Nat.le_add_right _ _ | (simp; done) | (simp; omega) | omega)))
  rintro W ⟨hb1, hb2, hbW⟩
  have b0 := hb1.cell 0
  have b1 := hb1.cell 1
  have b2 := hb1.cell 2
  simp only [List.getElem?_toArray, List.getElem?_cons_zero, List.getElem?_cons_succ] at b0 b1 b2
  have hz1 := hb1.lt
  have hz2 := hb2.lt
  have HB1 := Lib.hid hb1
  have HB2 := Lib.hid hb2
  clear hb1 hb2
  cases hc : concernsB x t col
  · have HC := Lib.hid hc
    clear hc
    go_wp2_with fail
    refine (scope_concerns _ x _ t col sq _ HB2.out).mono ?_
    rintro e w1 ⟨rfl, hb1⟩
    rw [HC.out]
    go_wp2_with fail
    go_ret
    exact ⟨ret_bool (by rw [coversB, HC.out]; rfl), below_nextN hbW hb1 hbW.size⟩
  · have HC := Lib.hid hc
    clear hc
    go_wp2_with fail
    refine (scope_concerns _ x _ t col sq _ HB2.out).mono ?_
    rintro e w1 ⟨rfl, hb1⟩
    rw [HC.out]
    have hx1 := below_nextN hbW hb1 hbW.size
    go_wp2_with fail
    refine (scope_limit _ x A c l _ (HB2.out.below hb1 hz2) ((HL.out.below hx1).mono hx1.size) hn HS.out hsx hseq).mono ?_
    rintro e w2 ⟨rfl, ⟨o, A6, c6, h1, h2, hB2, hso⟩, hg2⟩
    have hx2 : Below w.heap.size w w2 := Below.grown hx1 hg2 hx1.size (fun q e => by injection e with e; omega)
    have hO2 : SliceIs w2 w.heap.size Ident.cells 4 A' own := (HO.out.below hx1).grownL hg2 (by omega) hx1.size
    have hP2 : Blk w2 (w.heap.size + 1) 58 #[.int .i64 t, .int .i64 col, .int .i64 sq, .int .i64 rec, .int .i64 day, .slice A' own.length c', .bool nul, .bool lst] := (HB1.out.below hb1 hz1).grown hg2 (fun e => by injection e with e; omega)
    have p5 := hP2.cell 5
    simp only [List.getElem?_toArray, List.getElem?_cons_zero, List.getElem?_cons_succ] at p5
    obtain ⟨ha, hv, hol⟩ := scope_good h1 h2
    have HE := Lib.hid (covers_eq (own := own) HC.out h1 h2)
    have HB := Lib.hid hB2
    have HSO := Lib.hid hso
    have HA := Lib.hid ha
    have HV := Lib.hid hv
    have HO2 := Lib.hid (hO2.mono hx2.size)
    clear h1 h2 hB2 hso ha hv hO2 b0 b1 b2 hP2 hg2
    go_wp2_with fail
    refine (scope_includes _ x A6 c6 o A' c' own _ HB.out HSO.out hol HA.out HV.out HO2.out hn').mono ?_
    rintro e w3 ⟨rfl, hb3⟩
    rw [HE.out]
    go_wp2_with fail
    go_ret
    exact ⟨rfl, below_nextN hx2 hb3 hx2.size⟩
end Go.Proofs.Ytoleifehijccmaa
