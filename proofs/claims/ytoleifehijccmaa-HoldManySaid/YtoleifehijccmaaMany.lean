/-
  The law IdentityMany: 64 links are accepted, 65 are not.
-/
import Derived.Test.YtoleifehijccmaaAwake
namespace Go.Proofs.Ytoleifehijccmaa
set_option linter.unusedVariables false
open Go.RowKit

def chainId (i : Nat) : Ident := ⟨⟨#[110]⟩, ⟨1, i, ⟨#[]⟩⟩⟩
def chainLink (i : Nat) : Link := ⟨chainId i, chainId (i + 1), ((i + 1 : Nat) : Int), false⟩
def chain (n : Nat) : List Link := (List.range n).map chainLink
theorem chainId_inj {i j : Nat} (h : chainId i = chainId j) : i = j := by
  unfold chainId at h
  injection h with _ h
  injection h with _ h
  omega
theorem chain_succ (n : Nat) : chain (n + 1) = chain n ++ [chainLink n] := by
  unfold chain
  rw [List.range_succ, List.map_append]
  rfl
theorem chain_len (n : Nat) : (chain n).length = n := by simp [chain]
theorem chain_get {n i : Nat} (h : i < (chain n).length) : (chain n)[i] = chainLink i := by simp [chain]
theorem chainId_valid {i : Nat} (h : i ≤ 1000) : validId (chainId i) = true := by
  have h1 : nameB ⟨#[110]⟩ = true := by decide +kernel
  have h2 : valB ⟨1, i, ⟨#[]⟩⟩ = true := by
    unfold valB
    have : (-4294967296 : Int) ≤ i ∧ (i : Int) ≤ 4294967296 := by omega
    simp [this.1, this.2]
  unfold validId
  rw [show (chainId i).ns = ⟨#[110]⟩ from rfl, show (chainId i).val = ⟨1, i, ⟨#[]⟩⟩ from rfl, h1, h2]
  rfl
theorem chain_from : ∀ (n i : Nat), i + n ≤ 900 → validFrom i ((List.range' i n).map chainLink) = true
  | 0, i, _ => rfl
  | n + 1, i, h => by
    rw [List.range'_succ, List.map_cons, validFrom]
    have h1 : linkOk i (chainLink i) = true := by
      unfold linkOk chainLink
      simp only
      rw [chainId_valid (by omega), chainId_valid (by omega)]
      have h2 : chainId i ≠ chainId (i + 1) := fun e => by have := chainId_inj e; omega
      have h3 : ((i : Nat) : Int) < ((i + 1 : Nat) : Int) := by omega
      have h4 : ((i + 1 : Nat) : Int) ≤ 1073741824 := by omega
      simp [h2]
      omega
    rw [h1, Bool.true_and]
    exact chain_from n (i + 1) (by omega)
theorem chain_valid : validLinks (chain 64) = true := by
  unfold validLinks
  rw [chain_len, chain, List.range_eq_range']
  have := chain_from 64 0 (by omega)
  simpa using this
theorem chain_not : validLinks (chain 65) = false := by
  unfold validLinks
  rw [chain_len]
  rfl
theorem chain_sane (n : Nat) : Sane (chain n) := by
  intro x hx
  obtain ⟨i, _, rfl⟩ := List.mem_map.1 hx
  exact ⟨show (1 : Nat) ≤ 1000000 by omega, show (1 : Nat) ≤ 1000000 by omega⟩
theorem chain_edge {i : Nat} (h : i < 64) : EdgeAt (chain 64) 1000 (chainId i) (chainId (i + 1)) := by
  have hi : i < (chain 64).length := by rw [chain_len]; exact h
  refine ⟨i, hi, ?_, .inl ⟨by rw [chain_get]; rfl, by rw [chain_get]; rfl⟩⟩
  rw [chain_get]
  unfold directB
  have h1 : (chainLink i).seq ≤ 1000 := by show ((i + 1 : Nat) : Int) ≤ 1000; omega
  have h2 : (chainLink i).rev = false := rfl
  have h3 : (((chain 64).drop (i + 1)).takeWhile (fun y => decide (y.seq ≤ 1000))).any (fun y => samePair y (chainLink i)) = false := by
    rw [List.any_eq_false]
    intro y hy
    have hy := (List.takeWhile_sublist _).subset hy
    obtain ⟨k, hk, rfl⟩ := List.getElem_of_mem hy
    rw [List.getElem_drop, chain_get]
    simp only [samePair, chainLink]
    have e1 : chainId (i + 1 + k) ≠ chainId i := fun e => by have := chainId_inj e; omega
    have e2 : chainId (i + 1 + k + 1) ≠ chainId i := fun e => by have := chainId_inj e; omega
    simp [e1, e2]
  rw [h3, h2]
  simp [h1]
theorem chain_reach : ∀ i, i ≤ 64 → Reach (chain 64) 1000 (chainId 0) (chainId i)
  | 0, _ => .refl
  | i + 1, h => .step (chain_reach i (by omega)) (chain_edge (by omega))
theorem chain_at {out : List Ident} (h : IsAt (chain 64) (chainId 0) 1000 out) : out.length = 65 := by
  have hm : ∀ y, y ∈ out ↔ y ∈ (List.range 65).map chainId := by
    intro y
    rw [h.2]
    constructor
    · intro hr
      have := hr.named
      unfold named at this
      rcases List.mem_cons.1 this with rfl | this
      · exact List.mem_map.2 ⟨0, by simp, rfl⟩
      · obtain ⟨x, hx, hy⟩ := List.mem_flatMap.1 this
        obtain ⟨i, hi, rfl⟩ := List.mem_map.1 hx
        have hi : i < 64 := by simpa using hi
        simp [chainLink] at hy
        rcases hy with rfl | rfl
        · exact List.mem_map.2 ⟨i, by simp; omega, rfl⟩
        · exact List.mem_map.2 ⟨i + 1, by simp; omega, rfl⟩
    · intro hy
      obtain ⟨i, hi, rfl⟩ := List.mem_map.1 hy
      exact chain_reach i (by simp at hi; omega)
  have hn : ((List.range 65).map chainId).Nodup := by
    refine List.pairwise_map.2 (List.Pairwise.imp ?_ (List.nodup_range (n := 65)))
    exact fun {a b} hab e => hab (chainId_inj e)
  have h1 := nodup_le h.1.nodup (fun y hy => (hm y).1 hy)
  have h2 := nodup_le hn (fun y hy => (hm y).2 hy)
  simp at h1 h2
  omega
theorem int_any (i : Nat) (w : World) (hi : i ≤ 1000) :
    Calls Try.prog 11 #[.int .i64 i] w fun e w' => e = .returned (.agg #[.int .i64 1, .int .i64 i, .string ⟨#[]⟩]) ∧ Ext w w' := by
  have hv := validId_val (chainId_valid hi)
  have hc : clean ⟨1, i, ⟨#[]⟩⟩ = ⟨1, i, ⟨#[]⟩⟩ := clean_yes hv
  refine (ref01_Int i w).mono ?_
  rintro e w' ⟨rfl, hx⟩
  rw [hc]
  exact ⟨rfl, hx⟩
theorem infoLink : (Try.prog.info? 29).map (fun i => (i.zero, i.size, i.bytes)) = some (some (.agg #[.string ⟨#[]⟩, .int .i64 0, .int .i64 0, .string ⟨#[]⟩, .string ⟨#[]⟩, .int .i64 0, .int .i64 0, .string ⟨#[]⟩, .int .i64 0, .bool false]), 10, 112) := by kernel_rfl
theorem link_one : ∀ x : Link, ∀ u ∈ Link.cells x, u.oneCell' = true := by
  intro x u hu
  simp only [Link.cells, List.mem_cons, List.not_mem_nil, or_false] at hu
  rcases hu with rfl | rfl | rfl | rfl | rfl | rfl | rfl | rfl | rfl | rfl <;> rfl

set_option maxRecDepth 100000 in
set_option maxHeartbeats 2000000 in
theorem identityMany_walk (a0 : Int) (h0 : 0 ≤ a0) (h1 : a0 ≤ 255) (w : World) :
    Calls Try.prog 3 #[.int .u8 a0] w fun e w' => e = .returned (.bool true) ∧ Below w.heap.size w w' := by
  obtain ⟨i0, hi0, hz0, hz1, hz2⟩ := info_parts infoLink
  obtain ⟨d, hd, hd2⟩ : ∃ d : Nat, a0 % 2 = d ∧ d < 2 := ⟨(a0 % 2).toNat, by omega, by omega⟩
  have hout : ∀ out, AtOut (chain (64 + d)) (chainId 0) 1000 out → out.length = (1 - d) * 65 := by
    intro out ho
    unfold AtOut at ho
    rcases (show d = 0 ∨ d = 1 by omega) with rfl | rfl
    · rw [chain_valid, chainId_valid (by omega)] at ho
      exact chain_at ho
    · rw [chain_not] at ho
      rw [show out = [] from ho]
      rfl
  have hva : validLinks (chain (64 + d)) = (d == 0) := by
    rcases (show d = 0 ∨ d = 1 by omega) with rfl | rfl
    · exact chain_valid
    · exact chain_not
  have HOUT := Lib.hid hout
  have HVA := Lib.hid hva
  clear hout hva
  go_enter Try.func3, Try.ntmps3
  go_wp2
  have HD := Lib.hid hd
  clear hd
  go_loopw [4, 5] (fun vo vi wr => ∃ m : Nat, m ≤ 64 + d ∧ vi = .int .i64 m ∧ Owns wr w.heap.size 29 Link.cells 10 vo (chain m) ∧ Below w.heap.size w wr) (fun _ vi _ => 64 + d - (intOf vi).toNat)
  case atStart => exact ⟨0, Nat.zero_le _, rfl, Owns.nil, by repeat (first | with_reducible exact Below.refl _ _ | with_reducible assumption | (with_reducible refine Below.setCell ?_ ?_ _; rotate_left; focus (first | exact Nat.le_refl _ | exact Nat.le_add_right _ _ | (simp; done) | (simp; omega) | omega)) | (with_reducible refine Below.alloc ?_ ?_ _; rotate_left; focus (first | exact Nat.le_refl _ | exact Nat.le_add_right _ _ | (simp; done) | (simp; omega) | omega)) | with_reducible refine Below.drew ?_ | with_reducible refine below_drewN ?_ _ | (with_reducible refine below_nextN ?_ (by with_reducible assumption) ?_; rotate_left; focus (first | exact Nat.le_refl _ | exact Nat.le_add_right _ _ | (simp; done) | (simp; omega) | omega)))⟩
  case round =>
    obtain ⟨m, hm, rfl, hown, hbw⟩ := hrel
    have HOWN := Lib.hid hown
    have hrow := hown.row
    have hwz := hbw.size
    have hcl := chain_len m
    have HCL := Lib.hid hcl
    clear hown hcl
    by_cases hlt : m < 64 + d
    · go_wp2_with (first
        | (go_at_call 11; (with_reducible refine (int_any m _ (by omega)).mono ?_); rintro e w1 ⟨rfl, hb1⟩; have hx1 : Below wr.heap.size wr w1 := hb1.1)
        | (go_at_call 11; (refine (int_any (m + 1) _ (by omega)).mono ?_); rintro e w2 ⟨rfl, hb2⟩; have hx2 : Below wr.heap.size wr w2 := below_nextN hx1 hb2.1 hx1.size; have hxw : Below w.heap.size w w2 := below_nextN hbw hx2 hwz; have hz2' := hx2.size)
        | (at_builtin; go_must (refine wpList_append_list _ rfl (.tmp 15) (.tmp 26) 22 rfl 29 i0 _ Link.cells 10 112 Try.underlying22 hi0 hz0 hz1 hz2 rfl (by omega) link_len link_one w.heap.size u4 (chain m) rfl (((HOWN.out.below hx2 (Nat.le_refl _))).alloc _) _ _ _ [chainLink m] rfl rfl (Blk.one (enc := Link.cells) (x := chainLink m) (Blk.new' (by simp)) (by simp)) (by rw [HCL.out]; simp; omega) (by rw [HCL.out]; simp [maxLen]; omega) (by simp; omega) ?_); intro v' w3 hown' hg' hat'; have HOWN' := Lib.hid hown'; clear hown'; have hbel : Below w.heap.size w w3 := Below.grown (by repeat (first | with_reducible exact Below.refl _ _ | with_reducible assumption | (with_reducible refine Below.setCell ?_ ?_ _; rotate_left; focus (first | exact Nat.le_refl _ | exact Nat.le_add_right _ _ | (simp; done) | (simp; omega) | omega)) | (with_reducible refine Below.alloc ?_ ?_ _; rotate_left; focus (first | exact Nat.le_refl _ | exact Nat.le_add_right _ _ | (simp; done) | (simp; omega) | omega)) | with_reducible refine Below.drew ?_ | with_reducible refine below_drewN ?_ _ | (with_reducible refine below_nextN ?_ (by with_reducible assumption) ?_; rotate_left; focus (first | exact Nat.le_refl _ | exact Nat.le_add_right _ _ | (simp; done) | (simp; omega) | omega)))) hg' (by simp; omega) hrow))
      go_roundw
      case rel => exact ⟨m + 1, by omega, by go_num, by rw [chain_succ]; exact HOWN'.out, hbel⟩
      case measure => simp [intOf]; omega
    · rcases (show d = 0 ∨ d = 1 by omega) with rfl | rfl
      · obtain rfl : m = 64 := by omega
        have hva : validLinks (chain 64) = true := HVA.out
        have HVB := Lib.hid hva
        obtain ⟨A5, c5, rfl, hc5, hs5, _⟩ := HOWN.out.slice link_len
        obtain ⟨b5, o5, rfl, hb5, hcl⟩ := hs5.get (i := 0) (by rw [HCL.out]; omega)
        rw [chain_get] at hcl
        obtain ⟨⟨g0, g1, g2, g3⟩, _⟩ := Link.cells10 hcl
        simp only [Nat.zero_mul, Nat.add_zero] at g0 g1 g2 g3
        have HS5 := Lib.hid hs5
        clear hcl hva hs5 HVA hrow
        rw [HCL.out]
        go_wp2_with (first
          | (go_at_call 12; go_must (refine (identity_ValidR (A := some ⟨b5, o5, none⟩) (c := c5) (l := chain 64) ?_ (by rw [HCL.out]; omega) (chain_sane _) HVB.out).mono ?_); (exact HS5.out); rintro e w1 ⟨rfl, hb1⟩; have hx1 : Below w.heap.size w w1 := below_nextN hbw hb1 hbw.size; have hk1 := (keepB hb1 b5 hb5).1)
          | (go_at_call 13; go_must (refine (identity_At (some ⟨b5, o5, none⟩) c5 (chain 64) (chainId 0) 1000 _ ?_ (by rw [HCL.out]; omega) (chain_sane _) (by decide) (by decide)).mono ?_); (exact HS5.out.next hb1); rintro e w2 ⟨⟨out, A6, c6, hout, rfl, hc6, hs6⟩, hb2⟩; have hx2 : Below w.heap.size w w2 := below_nextN hx1 hb2 hx1.size; have hol : out.length = 65 := HOUT.out out hout; clear hout)
          | (go_at_call 14; go_must (refine (awake_any _).mono ?_); rintro e w3 ⟨rfl, hb3⟩; have hx3 : Below w.heap.size w w3 := below_nextN hx2 hb3 hx2.size))
        all_goals go_ret
        all_goals exact ⟨rfl, hx3⟩
      · obtain rfl : m = 65 := by omega
        have hva : validLinks (chain 65) = false := HVA.out
        have HVB := Lib.hid hva
        obtain ⟨A5, c5, rfl, hc5, hs5, _⟩ := HOWN.out.slice link_len
        obtain ⟨b5, o5, rfl, hb5, hcl⟩ := hs5.get (i := 0) (by rw [HCL.out]; omega)
        rw [chain_get] at hcl
        obtain ⟨⟨g0, g1, g2, g3⟩, _⟩ := Link.cells10 hcl
        simp only [Nat.zero_mul, Nat.add_zero] at g0 g1 g2 g3
        have HS5 := Lib.hid hs5
        clear hcl hva hs5 HVA hrow
        rw [HCL.out]
        go_wp2_with (first
          | (go_at_call 12; go_must (refine (identity_ValidR (A := some ⟨b5, o5, none⟩) (c := c5) (l := chain 65) ?_ (by rw [HCL.out]; omega) (chain_sane _) HVB.out).mono ?_); (exact HS5.out); rintro e w1 ⟨rfl, hb1⟩; have hx1 : Below w.heap.size w w1 := below_nextN hbw hb1 hbw.size; have hk1 := (keepB hb1 b5 hb5).1)
          | (go_at_call 13; go_must (refine (identity_At (some ⟨b5, o5, none⟩) c5 (chain 65) (chainId 0) 1000 _ ?_ (by rw [HCL.out]; omega) (chain_sane _) (by decide) (by decide)).mono ?_); (exact HS5.out.next hb1); rintro e w2 ⟨⟨out, A6, c6, hout, rfl, hc6, hs6⟩, hb2⟩; have hx2 : Below w.heap.size w w2 := below_nextN hx1 hb2 hx1.size; have hol : out.length = 0 := HOUT.out out hout; clear hout)
          | (go_at_call 14; go_must (refine (awake_any _).mono ?_); rintro e w3 ⟨rfl, hb3⟩; have hx3 : Below w.heap.size w w3 := below_nextN hx2 hb3 hx2.size))
        all_goals go_ret
        all_goals exact ⟨rfl, hx3⟩
end Go.Proofs.Ytoleifehijccmaa
