/-
  Layer 16: Valid, of the program and of the reference, is validLinks, for every list of links.
-/
import Derived.Test.YtoleifehijccmaaReach
namespace Go.Proofs.Ytoleifehijccmaa
set_option linter.unusedVariables false
open Go.RowKit

def lastOf : Int → List Link → Int
  | last, [] => last
  | _, x :: l => lastOf x.seq l
theorem validFrom_snoc : ∀ (last : Int) (l : List Link) (x : Link), validFrom last (l ++ [x]) = (validFrom last l && linkOk (lastOf last l) x)
  | last, [], x => by simp [validFrom, lastOf]
  | last, y :: l, x => by
    rw [List.cons_append, validFrom, validFrom_snoc y.seq l x, validFrom, lastOf, Bool.and_assoc]
theorem lastOf_snoc : ∀ (last : Int) (l : List Link) (x : Link), lastOf last (l ++ [x]) = x.seq
  | _, [], _ => rfl
  | _, y :: l, x => by rw [List.cons_append, lastOf, lastOf_snoc]
theorem validFrom_take (l : List Link) (m : Nat) (h : m < l.length) : validFrom 0 (l.take (m + 1)) = (validFrom 0 (l.take m) && linkOk (lastOf 0 (l.take m)) l[m]) := by
  rw [List.take_succ_eq_append_getElem h, validFrom_snoc]
theorem lastOf_take (l : List Link) (m : Nat) (h : m < l.length) : lastOf 0 (l.take (m + 1)) = l[m].seq := by
  rw [List.take_succ_eq_append_getElem h, lastOf_snoc]
theorem validFrom_app : ∀ (last : Int) (l r : List Link), validFrom last l = false → validFrom last (l ++ r) = false
  | _, [], _, h => by simp [validFrom] at h
  | last, x :: l, r, h => by
    rw [List.cons_append]
    rw [validFrom] at h ⊢
    cases h1 : validFrom x.seq l with
    | false => rw [validFrom_app x.seq l r h1]; simp
    | true => rw [h1, Bool.and_true] at h; rw [h]; simp
theorem validFrom_fail {l : List Link} {m : Nat} (h : m < l.length) (hf : linkOk (lastOf 0 (l.take m)) l[m] = false) : validLinks l = false := by
  have h1 : validFrom 0 (l.take (m + 1)) = false := by rw [validFrom_take l m h, hf]; simp
  have h2 := validFrom_app 0 _ (l.drop (m + 1)) h1
  rw [List.take_append_drop] at h2
  rw [validLinks, h2]; simp
theorem lastOf_pos {l : List Link} {m : Nat} (h : validFrom 0 (l.take m) = true) (hm : m ≤ l.length) : 0 ≤ lastOf 0 (l.take m) ∧ (∀ h : 0 < m, lastOf 0 (l.take m) = (l[m - 1]'(by omega)).seq ∧ 1 ≤ lastOf 0 (l.take m)) := by
  rcases m with _ | m
  · exact ⟨by simp [lastOf], fun h => by omega⟩
  · have e := lastOf_take l m (by omega)
    have hx := validFrom_mem h l[m] (by rw [List.take_succ_eq_append_getElem (by omega)]; exact List.mem_append_right _ (by simp))
    rw [e]
    exact ⟨by omega, fun _ => ⟨rfl, by omega⟩⟩
/-- The texts of namespaces are not absurdly long. -/
def Sane (l : List Link) : Prop := ∀ x ∈ l, x.a.ns.size ≤ 1000000 ∧ x.b.ns.size ≤ 1000000

theorem ref16_ValidId (x : Ident) (w : World) (hs : x.ns.size ≤ 1000000) {r : Bool} (hr : validId x = r) :
    Calls Try.prog 26 #[.agg #[.string x.ns, .int .i64 x.val.kind, .int .i64 x.val.num, .string x.val.text]] w fun e w' => e = .returned (.bool r) ∧ Ext w w' := by
  rw [← hr]
  exact ref16_ValidIdentifier x.ns x.val.kind x.val.num x.val.text w hs

set_option maxRecDepth 100000 in
set_option maxHeartbeats 2000000 in
theorem ref16_Valid (A : Option Addr) (c : Nat) (l : List Link) (w : World) (hl : SliceIs w w.heap.size Link.cells 10 A l) (hn : l.length ≤ 1000000) (hs : Sane l) :
    Calls Try.prog 41 #[.slice A l.length c] w fun e w' => e = .returned (.bool (validLinks l)) ∧ Below w.heap.size w w' := by
  have hg : Try.prog.eqGuardType Try.prog.depth 27 = false := by kernel_rfl
  have HS := Lib.hid hs
  clear hs
  go_enter Try.func41, Try.ntmps41
  go_wp2
  go_loopw [3] (fun i wr => ∃ m : Nat, m ≤ l.length ∧ i = .int .i64 m ∧ Below w.heap.size w wr ∧ validFrom 0 (l.take m) = true) (fun i _ => l.length - (intOf i).toNat)
  case atStart => exact ⟨0, Nat.zero_le _, rfl, by repeat (first | with_reducible exact Below.refl _ _ | with_reducible assumption | (with_reducible refine Below.setCell ?_ ?_ _; rotate_left; focus (first | exact Nat.le_refl _ | exact Nat.le_add_right _ _ | (simp; done) | (simp; omega) | omega)) | (with_reducible refine Below.alloc ?_ ?_ _; rotate_left; focus (first | exact Nat.le_refl _ | exact Nat.le_add_right _ _ | (simp; done) | (simp; omega) | omega)) | with_reducible refine Below.drew ?_ | with_reducible refine below_drewN ?_ _ | (with_reducible refine below_nextN ?_ (by with_reducible assumption) ?_; rotate_left; focus (first | exact Nat.le_refl _ | exact Nat.le_add_right _ _ | (simp; done) | (simp; omega) | omega))), by simp [validFrom]⟩
  case round =>
    obtain ⟨m, hm, rfl, hbw, hvf⟩ := hrel
    have HVF := Lib.hid hvf
    have hlp := lastOf_pos hvf hm
    have HLP := Lib.hid hlp
    clear hvf hlp
    by_cases hlt : m < l.length
    · obtain ⟨b, o, rfl, hb, hc⟩ := (hl.below hbw).get hlt
      obtain ⟨⟨a0, a1, a2, a3⟩, ⟨b0, b1, b2, b3⟩, s8, _⟩ := Link.cells10 hc
      clear hc
      have hk0 := keepQ (w := wr) b (by have := hbw.size; omega)
      have hsane := HS.out l[m] (List.getElem_mem hlt)
      obtain ⟨hsa, hsb⟩ := hsane
      have fails : ∀ (wq : World), Below wr.heap.size wr wq → linkOk (lastOf 0 (l.take m)) l[m] = false → (Ending.returned (.bool false) = .returned (.bool (validLinks l)) ∧ Below w.heap.size w wq)   := fun wq hq h => ⟨ret_bool (validFrom_fail hlt h).symm, below_nextN hbw hq hbw.size⟩
      have HF := Lib.hid fails
      clear fails
      by_cases c1 : l[m].seq < 1
      · go_wp2
        refine wp_region_bel (by kernel_rfl) (by kernel_rfl) ?_; (repeat (go_big_quiet_step (fail))); refine wpQuiet_nil ?_; intro wq hq
        go_wp2
        go_ret
        exact HF.out _ hq (by have h1 := HLP.out.1; have h2 : ¬ lastOf 0 (l.take m) < l[m].seq := (by omega); simp [linkOk, h2])
      have d1 : decide (l[m].seq < 1) = false := by simpa using c1
      by_cases c2 : 1073741824 < l[m].seq
      · go_wp2
        refine wp_region_bel (by kernel_rfl) (by kernel_rfl) ?_; (repeat (go_big_quiet_step (fail))); refine wpQuiet_nil ?_; intro wq hq
        go_wp2
        go_ret
        exact HF.out _ hq (by have h2 : ¬ l[m].seq ≤ 1073741824 := (by omega); simp [linkOk, h2])
      have d2 : decide (1073741824 < l[m].seq) = false := by simpa using c2
      rcases Nat.eq_zero_or_pos m with hm0 | hm0
      · have d3 : decide (0 < (m : Int)) = false := by simp; omega
        have d3' : decide (0 < m) = false := by simp; omega
        have hl0 : lastOf 0 (l.take m) = 0 := by rw [hm0]; simp [lastOf]
        have hlast : lastOf 0 (l.take m) < l[m].seq := by omega
        clear hl0
        have HM0 := Lib.hid hm0
        clear hm0
        cases c4 : validId l[m].a
        · have HC4 := Lib.hid c4
          clear c4
          go_wp2
          refine wp_region_bel (by kernel_rfl) (by kernel_rfl) ?_; (repeat (go_big_quiet_step ((go_at_call 26; with_reducible exact bel_of_ext (ref16_ValidId l[m].a _ hsa HC4.out))))); refine wpQuiet_nil ?_; intro wq hq
          go_wp2
          go_ret
          exact HF.out _ hq (by simp [linkOk, HC4.out])
        cases c5 : validId l[m].b
        · have HC4 := Lib.hid c4
          have HC5 := Lib.hid c5
          clear c4 c5
          go_wp2
          refine wp_region_bel (by kernel_rfl) (by kernel_rfl) ?_; (repeat (go_big_quiet_step (((go_at_call 26; first | with_reducible exact bel_of_ext (ref16_ValidId l[m].a _ hsa HC4.out) | with_reducible exact bel_of_ext (ref16_ValidId l[m].b _ hsb HC5.out)))))); refine wpQuiet_nil ?_; intro wq hq
          go_wp2
          go_ret
          exact HF.out _ hq (by simp [linkOk, HC5.out])
        by_cases c6 : l[m].a = l[m].b
        · have HC4 := Lib.hid c4
          have HC5 := Lib.hid c5
          have HC6 := Lib.hid c6
          have he := eqlId_of (decide_eq_true c6)
          clear c4 c5 c6
          go_wp2
          refine wp_region_bel (by kernel_rfl) (by kernel_rfl) ?_; (repeat (go_big_quiet_step (((go_at_call 26; first | with_reducible exact bel_of_ext (ref16_ValidId l[m].a _ hsa HC4.out) | with_reducible exact bel_of_ext (ref16_ValidId l[m].b _ hsb HC5.out)))))); refine wpQuiet_nil ?_; intro wq hq
          go_wp2
          go_ret
          exact HF.out _ hq (by simp [linkOk, HC6.out])
        have HC4 := Lib.hid c4
        have HC5 := Lib.hid c5
        have HC6 := Lib.hid c6
        have he := eqlId_of (decide_eq_false c6)
        clear c4 c5 c6
        have hgood : validFrom 0 (l.take (m + 1)) = true := by
          rw [validFrom_take l m hlt, HVF.out]
          have h2 : l[m].seq ≤ 1073741824 := by omega
          simp [linkOk, HC4.out, HC5.out, HC6.out, hlast, h2]
        have HGD := Lib.hid hgood
        clear hgood hlast
        go_wp2
        refine wp_region_bel (by kernel_rfl) (by kernel_rfl) ?_; (repeat (go_big_quiet_step (((go_at_call 26; first | with_reducible exact bel_of_ext (ref16_ValidId l[m].a _ hsa HC4.out) | with_reducible exact bel_of_ext (ref16_ValidId l[m].b _ hsb HC5.out)))))); refine wpQuiet_nil ?_; intro wq hq
        go_wp2
        go_roundw
        case rel => exact ⟨m + 1, by omega, by go_num, below_nextN hbw hq hbw.size, HGD.out⟩
        case measure => simp [intOf]; omega
      · obtain ⟨b', o', e, _, hc'⟩ := (hl.below hbw).get (i := m - 1) (by omega)
        injection e with e
        injection e with e1 e2
        subst e1 e2
        obtain ⟨_, _, s8', _⟩ := Link.cells10 hc'
        clear hc'
        have hle := (HLP.out.2 hm0).1
        have HLE := Lib.hid hle
        clear hle
        have d3 : (0 : Int) < (m : Int) := by omega
        by_cases c3 : l[m].seq ≤ (l[m - 1]'(by omega)).seq
        · have hnl : ¬ lastOf 0 (l.take m) < l[m].seq := by rw [HLE.out]; omega
          have HNL := Lib.hid hnl
          clear hnl
          go_wp2
          refine wp_region_bel (by kernel_rfl) (by kernel_rfl) ?_; (repeat (go_big_quiet_step (fail))); refine wpQuiet_nil ?_; intro wq hq
          go_wp2
          go_ret
          exact HF.out _ hq (by rw [linkOk, decide_eq_false (by have h := HNL.out; omega)]; rfl)
        have d4 : decide (l[m].seq ≤ (l[m - 1]'(by omega)).seq) = false := by simpa using c3
        have hlast : lastOf 0 (l.take m) < l[m].seq := by rw [HLE.out]; omega
        cases c4 : validId l[m].a
        · have HC4 := Lib.hid c4
          clear c4
          go_wp2
          refine wp_region_bel (by kernel_rfl) (by kernel_rfl) ?_; (repeat (go_big_quiet_step ((go_at_call 26; with_reducible exact bel_of_ext (ref16_ValidId l[m].a _ hsa HC4.out))))); refine wpQuiet_nil ?_; intro wq hq
          go_wp2
          go_ret
          exact HF.out _ hq (by simp [linkOk, HC4.out])
        cases c5 : validId l[m].b
        · have HC4 := Lib.hid c4
          have HC5 := Lib.hid c5
          clear c4 c5
          go_wp2
          refine wp_region_bel (by kernel_rfl) (by kernel_rfl) ?_; (repeat (go_big_quiet_step (((go_at_call 26; first | with_reducible exact bel_of_ext (ref16_ValidId l[m].a _ hsa HC4.out) | with_reducible exact bel_of_ext (ref16_ValidId l[m].b _ hsb HC5.out)))))); refine wpQuiet_nil ?_; intro wq hq
          go_wp2
          go_ret
          exact HF.out _ hq (by simp [linkOk, HC5.out])
        by_cases c6 : l[m].a = l[m].b
        · have HC4 := Lib.hid c4
          have HC5 := Lib.hid c5
          have HC6 := Lib.hid c6
          have he := eqlId_of (decide_eq_true c6)
          clear c4 c5 c6
          go_wp2
          refine wp_region_bel (by kernel_rfl) (by kernel_rfl) ?_; (repeat (go_big_quiet_step (((go_at_call 26; first | with_reducible exact bel_of_ext (ref16_ValidId l[m].a _ hsa HC4.out) | with_reducible exact bel_of_ext (ref16_ValidId l[m].b _ hsb HC5.out)))))); refine wpQuiet_nil ?_; intro wq hq
          go_wp2
          go_ret
          exact HF.out _ hq (by simp [linkOk, HC6.out])
        have HC4 := Lib.hid c4
        have HC5 := Lib.hid c5
        have HC6 := Lib.hid c6
        have he := eqlId_of (decide_eq_false c6)
        clear c4 c5 c6
        have hgood : validFrom 0 (l.take (m + 1)) = true := by
          rw [validFrom_take l m hlt, HVF.out]
          have h2 : l[m].seq ≤ 1073741824 := by omega
          simp [linkOk, HC4.out, HC5.out, HC6.out, hlast, h2]
        have HGD := Lib.hid hgood
        clear hgood hlast
        go_wp2
        refine wp_region_bel (by kernel_rfl) (by kernel_rfl) ?_; (repeat (go_big_quiet_step (((go_at_call 26; first | with_reducible exact bel_of_ext (ref16_ValidId l[m].a _ hsa HC4.out) | with_reducible exact bel_of_ext (ref16_ValidId l[m].b _ hsb HC5.out)))))); refine wpQuiet_nil ?_; intro wq hq
        go_wp2
        go_roundw
        case rel => exact ⟨m + 1, by omega, by go_num, below_nextN hbw hq hbw.size, HGD.out⟩
        case measure => simp [intOf]; omega
    · go_wp2
      go_ret
      have e : l.take m = l := List.take_of_length_le (by omega)
      have h := HVF.out
      rw [e] at h
      exact ⟨ret_bool (by rw [validLinks, h, Bool.and_true, Bool.eq_iff_iff]; simp; omega), hbw⟩
end Go.Proofs.Ytoleifehijccmaa
