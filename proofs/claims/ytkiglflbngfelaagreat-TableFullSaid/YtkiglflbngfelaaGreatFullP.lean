/-
  The plain law of TableFull: what 63 to 65 insertions with different keys give.
-/
import Derived.Test.YtkiglflbngfelaaGreatJ33
import Derived.Test.YtkiglflbngfelaaGreatJ24
import Derived.Test.YtkiglflbngfelaaGreatJ25
set_option linter.unusedVariables false
set_option linter.unusedSimpArgs false
namespace Go.Proofs.YtkiglflbngfelaaGreat
open Go.RowKit Go

def vK (i : Nat) : Val := ⟨1, ((i * 7 % 97 : Nat) : Int), ⟨#[]⟩⟩
def cF (i : Nat) (A : Option Addr) (cp : Nat) : Chg := ⟨1, ((i + 1 : Nat) : Int), 0, 0, A, cp, [vK i, nulV], nulV, 0, nulV⟩
def recF (j : Nat) : PRec := ([vK j, nulV], [((j + 1 : Nat) : Int), ((j + 1 : Nat) : Int)], 0)
theorem vK_ok : ∀ i, i < 66 → valB (vK i) = true := by decide +kernel
theorem vK_row : ∀ i, i < 66 → rowB [vK i, nulV] = true := by decide +kernel
theorem vK_apart : ∀ i, i < 66 → ∀ j, j < i → cmpVal (vK j) (vK i) ≠ 0 := by decide +kernel
theorem formF (q : Nat) {i : Nat} (hi : i < 66) (A : Option Addr) (cp : Nat) : formE [tabPl q] (cF i A cp) = 0 := by
  have h1 : invalidB [tabPl q] (cF i A cp) = false := by
    have e2 : badIns 2 (cF i A cp) = false := by
      unfold badIns
      rw [show (cF i A cp).row = [vK i, nulV] from rfl, vK_row i hi]
      show (((decide (nulV ≠ nulV) || (0 : Int) != 0) || decide (nulV ≠ nulV)) || (2 : Int) != 2 || !true) = false
      decide +kernel
    have e4 : badHead 1 (cF i A cp) = false := by
      have e5 : withinB ((i + 1 : Nat) : Int) 1 1073741824 = true := by
        unfold withinB
        rw [Bool.and_eq_true, decide_eq_true_eq, decide_eq_true_eq]
        omega
      show (((!withinB 1 1 3 || !withinB ((i + 1 : Nat) : Int) 1 1073741824) || !withinB 0 0 1048576) || !withinB 0 0 (((1 : Nat) : Int) - 1)) = false
      rw [e5]
      rfl
    have e3 : invalidB [tabPl q] (cF i A cp) = (badHead 1 (cF i A cp) || badIns 2 (cF i A cp)) := rfl
    rw [e3, e2, e4]
    rfl
  have h2 : ((keyOf (cF i A cp)).kind == 0) = false := rfl
  have h3 : pb (RowTyped (colsAt [tabPl q] (cF i A cp).table) (cF i A cp).row) = true := pb_true (fun m h k => by
    have h' : m < 2 := h
    rcases (show m = 0 ∨ m = 1 by omega) with rfl | rfl <;> rfl)
  have h4 : badTyp (colsAt [tabPl q] (cF i A cp).table) (cF i A cp) = false := rfl
  unfold formE
  rw [h1, h2, h3, h4]
  rfl
theorem recF_ok {i : Nat} (hi : i < 66) : RcdOk [colP0, colP1] (recF i).1 (recF i).2.1 (recF i).2.2 := by
  refine ⟨rfl, rfl, rfl, fun m hm => ?_, fun _ => show (1 : Int) ≠ 0 by decide⟩
  have h3 : m < 2 := hm
  have e5 : withinB ((i + 1 : Nat) : Int) 1 1073741824 = true := by
    unfold withinB
    rw [Bool.and_eq_true, decide_eq_true_eq, decide_eq_true_eq]
    omega
  rcases (show m = 0 ∨ m = 1 by omega) with rfl | rfl
  · exact ⟨fun _ => vK_ok i hi, fun _ _ => rfl, fun _ => e5, fun _ _ => Int.le_refl _⟩
  · exact ⟨fun _ => v_nul, fun _ _ => rfl, fun _ => e5, fun _ _ => Int.le_refl _⟩
/-- The tables after the first i of these changes. -/
def FullI (i : Nat) (pl : List (List PRec)) : Prop := ∃ recs, pl = [recs] ∧ PTabOk [colP0, colP1] recs ∧ recs.length = min i 64 ∧ ∀ r ∈ recs, ∃ j, j < i ∧ r = recF j
theorem FullI.pok {i q : Nat} {pl : List (List PRec)} (h : FullI i pl) : POk [tabPl q] pl := by
  obtain ⟨recs, rfl, hok, _, _⟩ := h
  refine ⟨rfl, fun i hi hi' => ?_⟩
  have h1 : i < 1 := hi
  obtain rfl : i = 0 := by omega
  exact hok
theorem FullI.zero : FullI 0 [[]] := ⟨[], rfl, ⟨by simp, fun r hr => (by cases hr), List.Pairwise.nil, List.Pairwise.nil⟩, rfl, fun r hr => (by cases hr)⟩
set_option maxHeartbeats 1000000 in
theorem FullI.next {q i : Nat} {pl : List (List PRec)} (h : FullI i pl) (hi : i ≤ 64) (A : Option Addr) (cp : Nat) : FullI (i + 1) (performE pl (cF i A cp)) ∧ ∀ rt : List RTab, rt.map pureT = pl → stateE [tabPl q] rt (cF i A cp) = if i < 64 then 0 else 8 := by
  obtain ⟨recs, rfl, hok, hl, hm⟩ := h
  have hK : KeyAsc recs := hok.keys (by decide)
  have hne : ∀ y ∈ recs, cmpVal (headP y) (headP (recF i)) ≠ 0 := fun y hy => by
    obtain ⟨j, hj, rfl⟩ := hm y hy
    exact vK_apart i (by omega) j hj
  have hf : foundK recs (vK i) = false := by
    rw [← Bool.not_eq_true, foundK_at hK (vK_ok i (by omega)) rfl]
    rintro ⟨hp, hc⟩
    have h2 : cmpVal (headP recs[placeK recs (vK i)]) (vK i) ≠ 0 := hne _ (List.getElem_mem hp)
    have h3 := cmpVal_ok.anti (vK i) (headP recs[placeK recs (vK i)])
    omega
  have hz : findP recs (vK i) < 0 := findP_lost hK (vK_ok i (by omega)) hf
  have hky : keyOf (cF i A cp) = vK i := rfl
  have hz' : findP recs (keyOf (cF i A cp)) < 0 := by rw [hky]; exact hz
  have hkd : (cF i A cp).kind = 1 := rfl
  constructor
  · by_cases h64 : i < 64
    · have e : performE [recs] (cF i A cp) = [insP recs (recF i)] := by
        show [perfL recs (cF i A cp)] = _
        rw [perfL_new (x := cF i A cp) hkd hz' (by omega)]
        rfl
      rw [e]
      refine ⟨_, rfl, hok.ins (by omega) (recF_ok (by omega)) hne (fun y hy => ?_), ?_, fun r hr => ?_⟩
      · obtain ⟨j, hj, rfl⟩ := hm y hy
        show ((j + 1 : Nat) : Int) ≠ ((i + 1 : Nat) : Int)
        omega
      · rw [(insP_perm recs (recF i)).length_eq, List.length_cons]
        omega
      · rcases List.mem_cons.1 ((insP_perm recs (recF i)).mem_iff.1 hr) with rfl | h1
        · exact ⟨i, by omega, rfl⟩
        · obtain ⟨j, hj, rfl⟩ := hm r h1
          exact ⟨j, by omega, rfl⟩
    · have e : performE [recs] (cF i A cp) = [recs] := by
        show [perfL recs (cF i A cp)] = _
        rw [perfL_full (x := cF i A cp) hkd hz' (by omega)]
      rw [e]
      exact ⟨recs, rfl, hok, by omega, fun r hr => by obtain ⟨j, hj, rfl⟩ := hm r hr; exact ⟨j, by omega, rfl⟩⟩
  · intro rt hrt
    have e1 : findK (recsAt rt (cF i A cp).table) (keyOf (cF i A cp)) = findP recs (vK i) := by
      rw [find_pure, hrt]
      rfl
    have e2 : (recsAt rt (cF i A cp).table).length = recs.length := by
      rw [recsLen_pure, hrt]
      rfl
    have e0 : (⟨#[]⟩ : ByteArray).toList.isEmpty = true := by decide +kernel
    have e3 : pb (AllLead [tabPl q] rt (colsAt [tabPl q] (cF i A cp).table) (cF i A cp).row) = true := pb_true (fun m h k => by
      have h' : m < 2 := h
      rcases (show m = 0 ∨ m = 1 by omega) with rfl | rfl
      · show (((⟨#[]⟩ : ByteArray).toList.isEmpty || _) || _) = true
        rw [e0]
        rfl
      · show (((⟨#[]⟩ : ByteArray).toList.isEmpty || _) || _) = true
        rw [e0]
        rfl)
    unfold stateE
    rw [e1, e2, e3]
    have hk1 : (cF i A cp).kind = 1 := rfl
    rw [hk1, if_neg (by rw [decide_eq_false (by omega)]; decide), if_neg (by simp), if_neg (by decide), if_neg (by simp)]
    by_cases h64 : i < 64
    · rw [if_pos h64, if_neg (by rw [decide_eq_false (by omega)]; decide)]
    · rw [if_neg h64, if_pos (by rw [decide_eq_true (by omega)]; decide)]
section
variable {q : Nat} {l : List Chg}
theorem full_all (h : ∀ i (hi : i < l.length), ∃ A cp, l[i] = cF i A cp) (hn : l.length ≤ 65) : ∀ i, i ≤ l.length → FullI i (replayE [tabPl q] (l.take i)) := by
  intro i
  induction i with
  | zero => exact fun _ => FullI.zero
  | succ i ih =>
    intro hi
    obtain ⟨A, cp, e⟩ := h i hi
    rw [replayE_succ _ hi, e, formF q (by omega), if_pos rfl]
    exact ((ih (by omega)).next (q := q) (by omega) A cp).1
theorem full_same (h : ∀ i (hi : i < l.length), ∃ A cp, l[i] = cF i A cp) (hn : l.length ≤ 65) (q' : Nat) : ∀ i, i ≤ l.length → replayE [tabPl q] (l.take i) = replayE [tabPl q'] (l.take i) := by
  intro i
  induction i with
  | zero => exact fun _ => rfl
  | succ i ih =>
    intro hi
    obtain ⟨A, cp, e⟩ := h i hi
    rw [replayE_succ _ hi, replayE_succ _ hi, e, formF q (by omega), formF q' (by omega), if_pos rfl, if_pos rfl, ih (by omega)]
theorem full_one (h : ∀ i (hi : i < l.length), ∃ A cp, l[i] = cF i A cp) (hn : l.length ≤ 65) (q' : Nat) : replayE [tabPl q] l = replayE [tabPl q'] l := by
  have h1 := full_same (q := q) h hn q' l.length (Nat.le_refl _)
  rwa [List.take_length] at h1
/-- What each of these changes meets. -/
theorem full_step (h : ∀ i (hi : i < l.length), ∃ A cp, l[i] = cF i A cp) (hn : l.length ≤ 65) {i : Nat} (hi : i < l.length) : formE [tabPl q] l[i] = 0 ∧ ∀ rt : List RTab, rt.map pureT = replayE [tabPl q] (l.take i) → stateE [tabPl q] rt l[i] = if i < 64 then 0 else 8 := by
  have h1 := full_all (q := q) h hn i (by omega)
  obtain ⟨A, cp, e⟩ := h i hi
  rw [e]
  exact ⟨formF q (by omega) A cp, (h1.next (q := q) (by omega) A cp).2⟩
theorem full_follows (h : ∀ i (hi : i < l.length), ∃ A cp, l[i] = cF i A cp) {i : Nat} (hi : i < l.length) (h0 : 0 < i) : (l[i - 1]'(by omega)).seq < l[i].seq ∧ (l[i - 1]'(by omega)).day ≤ l[i].day := by
  obtain ⟨A, cp, e⟩ := h i hi
  obtain ⟨A', cp', e'⟩ := h (i - 1) (by omega)
  rw [e, e']
  refine ⟨?_, Int.le_refl _⟩
  show (((i - 1) + 1 : Nat) : Int) < ((i + 1 : Nat) : Int)
  omega
theorem full_rows (h : ∀ i (hi : i < l.length), ∃ A cp, l[i] = cF i A cp) : ∀ x ∈ l, x.row.length ≤ 1000000 := fun x hx => by
  obtain ⟨i, hi, rfl⟩ := List.getElem_of_mem hx
  obtain ⟨A, cp, e⟩ := h i hi
  rw [e]
  show 2 ≤ 1000000
  omega
theorem full_len (h : ∀ i (hi : i < l.length), ∃ A cp, l[i] = cF i A cp) (hn : l.length ≤ 65) {rt : List RTab} (hr : rt.map pureT = replayE [tabPl q] l) : ∃ t, rt = [t] ∧ t.recs.length = min l.length 64 := by
  have h1 := full_all (q := q) h hn l.length (Nat.le_refl _)
  rw [List.take_length, ← hr] at h1
  obtain ⟨recs, e, _, hl, _⟩ := h1
  match rt, e with
  | [t], e =>
    refine ⟨t, rfl, ?_⟩
    have e2 : pureT t = recs := by simpa using e
    rw [← hl, ← e2]
    simp [pureT]
theorem full_sane (h : ∀ i (hi : i < l.length), ∃ A cp, l[i] = cF i A cp) (hn : l.length ≤ 65) {rt : List RTab} (hr : rt.map pureT = replayE [tabPl q] l) : SaneR rt := by
  have h1 := full_all (q := q) h hn l.length (Nat.le_refl _)
  rw [List.take_length, ← hr] at h1
  exact ((h1.pok (q := q)).back (catP_ok q)).shape.sane (catP_ok q)
end
end Go.Proofs.YtkiglflbngfelaaGreat
