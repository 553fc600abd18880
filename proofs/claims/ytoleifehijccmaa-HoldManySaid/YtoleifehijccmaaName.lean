/-
  Layer 2: names: lexer.IsName and the reference's twin agree with one function, for every string.
-/
import Derived.Test.YtoleifehijccmaaBase
import Derived.Test.YtoleifehijccmaaProg
namespace Go.Proofs.Ytoleifehijccmaa
set_option linter.unusedVariables false
open Go.RowKit

def letB (c : Int) : Bool := decide (97 ≤ c) && decide (c ≤ 122)
def digB (c : Int) : Bool := decide (48 ≤ c) && decide (c ≤ 57)
def inNameB (c : Int) : Bool := letB c || digB c || c == 95
def byteAt (s : ByteArray) (k : Nat) : Int := if h : k < s.size then (s[k].toNat : Int) else 0
/-- The byte at k may stand in a name at k. -/
def okAt (s : ByteArray) (k : Nat) : Bool := letB (byteAt s k) || (decide (0 < k) && (digB (byteAt s k) || byteAt s k == 95))
def allOk (s : ByteArray) (n : Nat) : Bool := (List.range n).all (okAt s)
/-- A name (P2.1). -/
def nameB (s : ByteArray) : Bool := decide (s.size ≠ 0) && decide (s.size ≤ 16) && allOk s s.size

theorem byteAt_lt {s : ByteArray} {k : Nat} (h : k < s.size) : byteAt s k = (s[k].toNat : Int) := dif_pos h
theorem allOk_succ (s : ByteArray) (n : Nat) : allOk s (n + 1) = (allOk s n && okAt s n) := by
  unfold allOk; rw [List.range_succ, List.all_append]; simp
theorem allOk_no {s : ByteArray} {n k : Nat} (h : okAt s k = false) (hk : k < n) : allOk s n = false := by
  unfold allOk
  rw [List.all_eq_false]
  exact ⟨k, by simpa using hk, by simp [h]⟩

set_option maxHeartbeats 400000 in
theorem lexer_isLetter (c : Int) (w : World) : Calls Try.prog 91 #[.int .u8 c] w fun e w' => e = .returned (.bool (letB c)) ∧ w = w' := by
  go_enter Try.func91, Try.ntmps91
  go_wp2
  all_goals go_ret
  all_goals refine ⟨ret_bool ?_, rfl⟩
  all_goals (unfold letB; simp; try omega)
set_option maxHeartbeats 400000 in
theorem lexer_isDigit (c : Int) (w : World) : Calls Try.prog 92 #[.int .u8 c] w fun e w' => e = .returned (.bool (digB c)) ∧ w = w' := by
  go_enter Try.func92, Try.ntmps92
  go_wp2
  all_goals go_ret
  all_goals refine ⟨ret_bool ?_, rfl⟩
  all_goals (unfold digB; simp; try omega)
set_option maxHeartbeats 400000 in
theorem ref02_letter (c : Int) (w : World) : Calls Try.prog 75 #[.int .u8 c] w fun e w' => e = .returned (.bool (letB c)) ∧ w = w' := by
  go_enter Try.func75, Try.ntmps75
  go_wp2
  all_goals go_ret
  all_goals refine ⟨ret_bool ?_, rfl⟩
  all_goals (unfold letB; simp; try omega)
set_option maxHeartbeats 400000 in
theorem ref02_decimal (c : Int) (w : World) : Calls Try.prog 93 #[.int .u8 c] w fun e w' => e = .returned (.bool (digB c)) ∧ w = w' := by
  go_enter Try.func93, Try.ntmps93
  go_wp2
  all_goals go_ret
  all_goals refine ⟨ret_bool ?_, rfl⟩
  all_goals (unfold digB; simp; try omega)
set_option maxHeartbeats 400000 in
theorem ref02_inName (c : Int) (w : World) : Calls Try.prog 76 #[.int .u8 c] w fun e w' => e = .returned (.bool (inNameB c)) ∧ w = w' := by
  go_enter Try.func76, Try.ntmps76
  go_wp2_with (first | (go_at_call 75; refine (ref02_letter _ _).mono ?_; rintro e w1 ⟨rfl, rfl⟩) | (go_at_call 93; refine (ref02_decimal _ _).mono ?_; rintro e w1 ⟨rfl, rfl⟩))
  all_goals go_ret
  all_goals refine ⟨ret_bool ?_, rfl⟩
  all_goals (simp_all [inNameB])

set_option maxHeartbeats 400000 in
theorem lexer_nameLength (s : ByteArray) (w : World) (hs : s.size ≤ 1000000) :
    Calls Try.prog 74 #[.string s] w fun e w' => (∃ k : Nat, e = .returned (.int .i64 k) ∧ decide (k = s.size) = allOk s s.size) ∧ w = w' := by
  go_enter Try.func74, Try.ntmps74
  go_wp2
  go_loop [3] (fun i => ∃ k : Nat, k ≤ s.size ∧ i = .int .i64 k ∧ allOk s k = true) (fun i => s.size - (intOf i).toNat)
  case atStart => exact ⟨0, Nat.zero_le _, rfl, rfl⟩
  case round =>
    obtain ⟨k, hk, rfl, hok⟩ := hrel
    have HOK := Lib.hid hok
    clear hok
    by_cases hlt : k < s.size
    · have hb := byteAt_lt hlt
      have HB := Lib.hid hb
      clear hb
      have hr : 0 ≤ (s[k].toNat : Int) ∧ (s[k].toNat : Int) ≤ 255 := by have := s[k].toNat_lt; omega
      go_wp2_with (first | (go_at_call 91; refine (lexer_isLetter _ _).mono ?_; rintro e w1 ⟨rfl, rfl⟩) | (go_at_call 92; refine (lexer_isDigit _ _).mono ?_; rintro e w1 ⟨rfl, rfl⟩))
      all_goals first
        | (have hokk : okAt s k = true := by (rw [okAt, HB.out]; simp_all)
           go_round
           case rel => exact ⟨k + 1, by omega, by go_num, by rw [allOk_succ, HOK.out, hokk]; rfl⟩
           case measure => simp [intOf]; omega)
        | (have hokk : okAt s k = false := by (rw [okAt, HB.out]; simp_all)
           go_ret
           refine ⟨⟨k, rfl, ?_⟩, rfl⟩
           rw [allOk_no hokk hlt]
           simp; omega)
    · go_wp2
      go_ret
      obtain rfl : k = s.size := by omega
      exact ⟨⟨s.size, rfl, by simp [HOK.out]⟩, rfl⟩

set_option maxHeartbeats 400000 in
theorem lexer_IsName (s : ByteArray) (w : World) (hs : s.size ≤ 1000000) :
    Calls Try.prog 46 #[.string s] w fun e w' => e = .returned (.bool (nameB s)) ∧ w = w' := by
  have hsz : s.toList.length = s.size := by rw [ByteArray.toList_eq]; rfl
  have HSZ := Lib.hid hsz
  clear hsz
  by_cases h0 : s.toList = []
  · have hz : s.size = 0 := by rw [← HSZ.out, h0]; rfl
    have h1 : s.toList.isEmpty = true := by simp [h0]
    have HZ := Lib.hid hz
    clear hz
    go_enter Try.func46, Try.ntmps46
    go_wp2_with fail
    go_ret
    exact ⟨ret_bool (by simp [nameB, HZ.out]), rfl⟩
  · have h1 : s.toList.isEmpty = false := by simpa using h0
    have hz : s.size ≠ 0 := fun e => h0 (List.eq_nil_of_length_eq_zero (by rw [HSZ.out, e]))
    have h2 : 0 < s.size := by omega
    clear hz
    by_cases h16 : (s.size : Int) ≤ 16
    · have hd : decide ((s.size : Int) ≤ 16) = true := by simpa using h16
      go_enter Try.func46, Try.ntmps46
      go_wp2_with (go_at_call 74; refine (lexer_nameLength _ _ hs).mono ?_; rintro e w1 ⟨⟨q, rfl, hq⟩, rfl⟩; have HQ := Lib.hid hq; clear hq)
      go_ret
      refine ⟨ret_bool ?_, rfl⟩
      have e1 : ((q : Int) == (s.size : Int)) = decide (q = s.size) := by
        rw [Bool.eq_iff_iff]; simp; omega
      have e2 : decide (s.size ≠ 0) = true := decide_eq_true (by omega)
      have e3 : decide (s.size ≤ 16) = true := by simp; omega
      rw [e1, HQ.out, nameB, e2, e3]
      rfl
    · have hd : decide ((s.size : Int) ≤ 16) = false := by simpa using h16
      go_enter Try.func46, Try.ntmps46
      go_wp2_with fail
      go_ret
      refine ⟨ret_bool ?_, rfl⟩
      have e3 : decide (s.size ≤ 16) = false := by simp; omega
      rw [nameB, e3]
      simp

theorem okAt_zero (s : ByteArray) : okAt s 0 = letB (byteAt s 0) := by simp [okAt]
theorem okAt_inName {s : ByteArray} {k : Nat} (h : 0 < k) : okAt s k = inNameB (byteAt s k) := by
  simp [okAt, inNameB, h, Bool.or_assoc]
theorem okAt_of (s : ByteArray) (k : Nat) (h : okAt s 0 = true) : okAt s k = inNameB (byteAt s k) := by
  rcases Nat.eq_zero_or_pos k with rfl | hk
  · rw [h]; rw [okAt_zero] at h; simp [inNameB, h]
  · exact okAt_inName hk

set_option maxHeartbeats 400000 in
theorem ref02_IsName (s : ByteArray) (w : World) (hs : s.size ≤ 1000000) :
    Calls Try.prog 48 #[.string s] w fun e w' => e = .returned (.bool (nameB s)) ∧ w = w' := by
  by_cases h0 : s.size = 0
  · have h1 : ((s.size : Int) == 0) = true := by simp [h0]
    have HZ := Lib.hid h0
    clear h0
    go_enter Try.func48, Try.ntmps48
    go_wp2_with fail
    go_ret
    exact ⟨ret_bool (by simp [nameB, HZ.out]), rfl⟩
  · have h1 : ((s.size : Int) == 0) = false := by simp [h0]
    have h2 : 0 < s.size := by omega
    have hb := byteAt_lt h2
    have HB := Lib.hid hb
    clear hb
    by_cases h16 : (s.size : Int) ≤ 16
    · cases hl : letB (s[0].toNat : Int)
      · go_enter Try.func48, Try.ntmps48
        go_wp2_with (go_at_call 75; refine (ref02_letter _ _).mono ?_; rintro e w1 ⟨rfl, rfl⟩)
        go_ret
        refine ⟨ret_bool ?_, rfl⟩
        rw [nameB, allOk_no (k := 0) (by rw [okAt_zero, HB.out, hl]) h2]
        simp
      · have hok : okAt s 0 = true := by rw [okAt_zero, HB.out, hl]
        have HOK := Lib.hid hok
        clear hok
        have HL := Lib.hid hl
        go_enter Try.func48, Try.ntmps48
        go_wp2_with (go_at_call 75; refine (ref02_letter _ _).mono ?_; rintro e w1 ⟨rfl, rfl⟩)
        clear hl
        go_loop [3] (fun i => ∃ k : Nat, k ≤ s.size ∧ i = .int .i64 k ∧ allOk s k = true) (fun i => s.size - (intOf i).toNat)
        case atStart => exact ⟨0, Nat.zero_le _, rfl, rfl⟩
        case round =>
          obtain ⟨k, hk, rfl, hok⟩ := hrel
          have HOK' := Lib.hid hok
          clear hok
          by_cases hlt : k < s.size
          · have hb := byteAt_lt hlt
            have HB' := Lib.hid hb
            clear hb
            have hi := okAt_of s k HOK.out
            have HI := Lib.hid hi
            clear hi
            go_wp2_with (go_at_call 76; refine (ref02_inName _ _).mono ?_; rintro e w1 ⟨rfl, rfl⟩)
            all_goals first
              | (have hokk : okAt s k = true := by (rw [HI.out, HB'.out]; simp_all)
                 go_round
                 case rel => exact ⟨k + 1, by omega, by go_num, by rw [allOk_succ, HOK'.out, hokk]; rfl⟩
                 case measure => simp [intOf]; omega)
              | (have hokk : okAt s k = false := by (rw [HI.out, HB'.out]; simp_all)
                 go_ret
                 refine ⟨ret_bool ?_, rfl⟩
                 rw [nameB, allOk_no hokk hlt]
                 simp)
          · go_wp2
            go_ret
            obtain rfl : k = s.size := by omega
            have e2 : decide (s.size ≠ 0) = true := decide_eq_true (by omega)
            have e3 : decide (s.size ≤ 16) = true := by simp; omega
            exact ⟨ret_bool (by rw [nameB, HOK'.out, e2, e3]; rfl), rfl⟩
    · have h17 : 16 < (s.size : Int) := by omega
      go_enter Try.func48, Try.ntmps48
      go_wp2_with fail
      go_ret
      refine ⟨ret_bool ?_, rfl⟩
      have e3 : decide (s.size ≤ 16) = false := by simp; omega
      rw [nameB, e3]
      simp

end Go.Proofs.Ytoleifehijccmaa
