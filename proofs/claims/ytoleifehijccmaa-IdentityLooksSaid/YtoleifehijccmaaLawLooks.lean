/-
  The law IdentityLooks.
-/
import Derived.Test.YtoleifehijccmaaLooks
import Derived.Test.YtoleifehijccmaaSpoil
namespace Go.Proofs.Ytoleifehijccmaa
set_option linter.unusedVariables false
open Go.RowKit

set_option maxRecDepth 100000 in
set_option maxHeartbeats 4000000 in
theorem looks_walk (A : Option Addr) (c : Nat) (t : List Int) (seq : Int) (w : World) (hl : SliceIs w w.heap.size intCells 1 A t) (hn : t.length * 8 ≤ 140737488351232) (hseq : seq ≤ 9223372036854775807) :
    Calls Try.prog 6 #[.slice A t.length c, .int .i64 seq] w fun e w' => e = .returned (.bool true) ∧ Below w.heap.size w w' := by
  have HL := Lib.hid hl
  clear hl
  go_enter Try.func6, Try.ntmps6
  go_wp2_with fail
  refine (tape_New A c t _ HL.out hn).mono ?_
  rintro e w1 ⟨⟨g, b, rfl, hg1, hb1, hk1⟩, hx1⟩
  have HK1 := Lib.hid hk1
  clear hk1
  go_wp2_with fail
  refine (tape_Links g b 8 _ HK1.out (by omega)).mono ?_
  rintro e w2 ⟨v2, l, s, rfl, hown2, hgen, hs4, hl8, hk2, hg2⟩
  obtain ⟨A2, c2, rfl, hc2, hsl2, hA2⟩ := hown2.slice link_len
  have hlt1 : g < w1.heap.size := HK1.out.ltg
  have hne2 : ∀ a, A2 = some a → some a.block ≠ some g := fun a ha e => by injection e with e; have := (hA2 a ha).1; omega
  have hval := hgen.links (by omega)
  have HSN := Lib.hid (valid_sane hval)
  have HK2 := Lib.hid hk2
  have HS2 := Lib.hid hsl2
  have HNE := Lib.hid hne2
  have hx2 : Below w.heap.size w w2 := Below.grown hx1 hg2 hx1.size (fun q e => by injection e with e; omega)
  clear hk2 hsl2 hne2 hval hgen hown2 hA2 HK1 HL hg2
  go_wp2_with fail
  go_loopw [7] (fun vi wr => ∃ m : Nat, m ≤ 4 ∧ vi = .int .i64 m ∧ IsTape wr g b ∧ SliceIs wr wr.heap.size Link.cells 10 A2 l ∧ Below w.heap.size w wr) (fun vi _ => 4 - (intOf vi).toNat)
  case atStart => exact ⟨0, by omega, rfl, HK2.out, HS2.out, hx2⟩
  case round =>
    obtain ⟨m, hm, rfl, hkr, hsr, hx3⟩ := hrel
    have HK3 := Lib.hid hkr
    have HS3 := Lib.hid hsr
    clear hkr hsr HK2 HS2 hx2 hx1
    by_cases hlt : m < 4
    · go_wp2_with fail
      refine (tape_Identifier g b _ HK3.out).mono ?_
      rintro e w4 ⟨x4, rfl, hv4, hs4, hk4, hg4⟩
      have HK4 := Lib.hid hk4
      have hx4 : Below w.heap.size w w4 := Below.grown hx3 hg4 hx3.size (fun q e => by injection e with e; omega)
      have HS4 : Hid (SliceIs w4 w4.heap.size Link.cells 10 A2 l) := HS3.out.grown hg4 HNE.out
      clear hk4
      go_wp2_with fail
      refine (tape_Identifier g b _ HK4.out).mono ?_
      rintro e w5 ⟨x5, rfl, hv5, hs5, hk5, hg5⟩
      have HK5 := Lib.hid hk5
      have hx5 : Below w.heap.size w w5 := Below.grown hx4 hg5 hx4.size (fun q e => by injection e with e; omega)
      have HS5 : Hid (SliceIs w5 w5.heap.size Link.cells 10 A2 l) := HS4.out.grown hg5 HNE.out
      clear hk5
      go_wp2_with fail
      refine (tape_Next g b 25 _ HK5.out (by omega) (by omega)).mono ?_
      rintro e w6 ⟨q6, rfl, hq6, hk6, hg6⟩
      have hq6' : (q6 : Int) ≤ 9223372036854775807 := by rcases hq6 with h | h <;> omega
      have HK6 := Lib.hid hk6
      have hx6 : Below w.heap.size w w6 := Below.grown hx5 hg6 hx5.size (fun q e => by injection e with e; omega)
      have HS6 : Hid (SliceIs w6 w6.heap.size Link.cells 10 A2 l) := HS5.out.grown hg6 HNE.out
      clear hk6
      go_wp2_with fail
      refine (looks_any A2 c2 l.length l x4 x5 (q6 : Int) _ HS6.out rfl (by omega) HSN.out (by first | omega | decide) (by first | omega | decide) (by omega)).mono ?_
      rintro e w7 ⟨rfl, hb7⟩
      have hx7 := below_next hx6 hb7
      have HK7 := Lib.hid (HK6.out.below hb7)
      have HS7 := Lib.hid (HS6.out.next hb7)
      go_wp2_with fail
      refine (tape_SpoilLinks g b A2 c2 l.length l _ HK7.out HS7.out rfl (by omega) HSN.out).mono ?_
      rintro e w8 ⟨v8, rfl, l8, hown8, hsn8, hl88, hk8, hg8⟩
      obtain ⟨A8, c8, rfl, hc8, hsl8, hA8⟩ := hown8.slice link_len
      have hlt7 : g < w7.heap.size := HK7.out.ltg
      have hne8 : ∀ a, A8 = some a → some a.block ≠ some g := fun a ha e => by injection e with e; have := (hA8 a ha).1; omega
      have HK8 := Lib.hid hk8
      have hx8 : Below w.heap.size w w8 := Below.grown hx7 hg8 hx7.size (fun q e => by injection e with e; omega)
      have HS8 : Hid (SliceIs w8 w8.heap.size Link.cells 10 A2 l) := HS7.out.grown hg8 HNE.out
      clear hk8
      have HSN8 := Lib.hid hsn8
      have HNE8 := Lib.hid hne8
      have HT8 := Lib.hid hsl8
      clear hsn8 hne8 hsl8 hown8 hA8
      go_wp2_with fail
      refine (tape_Identifier g b _ HK8.out).mono ?_
      rintro e w9 ⟨x9, rfl, hv9, hs9, hk9, hg9⟩
      have HK9 := Lib.hid hk9
      have hx9 : Below w.heap.size w w9 := Below.grown hx8 hg9 hx8.size (fun q e => by injection e with e; omega)
      have HS9 : Hid (SliceIs w9 w9.heap.size Link.cells 10 A2 l) := HS8.out.grown hg9 HNE.out
      clear hk9
      have HT9 : Hid (SliceIs w9 w9.heap.size Link.cells 10 A8 l8) := HT8.out.grown hg9 HNE8.out
      go_wp2_with fail
      refine (tape_Identifier g b _ HK9.out).mono ?_
      rintro e w10 ⟨x10, rfl, hv10, hs10, hk10, hg10⟩
      have HK10 := Lib.hid hk10
      have hx10 : Below w.heap.size w w10 := Below.grown hx9 hg10 hx9.size (fun q e => by injection e with e; omega)
      have HS10 : Hid (SliceIs w10 w10.heap.size Link.cells 10 A2 l) := HS9.out.grown hg10 HNE.out
      clear hk10
      have HT10 : Hid (SliceIs w10 w10.heap.size Link.cells 10 A8 l8) := HT9.out.grown hg10 HNE8.out
      go_wp2_with fail
      refine (tape_Next g b 25 _ HK10.out (by omega) (by omega)).mono ?_
      rintro e w11 ⟨q11, rfl, hq11, hk11, hg11⟩
      have hq11' : (q11 : Int) ≤ 9223372036854775807 := by rcases hq11 with h | h <;> omega
      have HK11 := Lib.hid hk11
      have hx11 : Below w.heap.size w w11 := Below.grown hx10 hg11 hx10.size (fun q e => by injection e with e; omega)
      have HS11 : Hid (SliceIs w11 w11.heap.size Link.cells 10 A2 l) := HS10.out.grown hg11 HNE.out
      clear hk11
      have HT11 : Hid (SliceIs w11 w11.heap.size Link.cells 10 A8 l8) := HT10.out.grown hg11 HNE8.out
      go_wp2_with fail
      refine (looks_any A8 c8 l8.length l8 x9 x10 (q11 : Int) _ HT11.out rfl (by omega) HSN8.out (by omega) (by omega) (by omega)).mono ?_
      rintro e w12 ⟨rfl, hb12⟩
      go_wp2_with fail
      go_roundw
      case rel => exact ⟨m + 1, by omega, by go_num, HK11.out.below hb12, HS11.out.next hb12, below_next hx11 hb12⟩
      case measure => simp [intOf]; omega
    · have hm4 : m = 4 := by omega
      subst hm4
      go_wp2_with fail
      refine (tape_Identifier g b _ HK3.out).mono ?_
      rintro e w4 ⟨x4, rfl, hv4, hs4, hk4, hg4⟩
      have HK4 := Lib.hid hk4
      have hx4 : Below w.heap.size w w4 := Below.grown hx3 hg4 hx3.size (fun q e => by injection e with e; omega)
      have HS4 : Hid (SliceIs w4 w4.heap.size Link.cells 10 A2 l) := HS3.out.grown hg4 HNE.out
      clear hk4
      go_wp2_with fail
      refine (looks_any A2 c2 l.length l x4 (⟨⟨#[66, 97, 100]⟩, 0, 0, ⟨#[]⟩⟩ : Ident) seq _ HS4.out rfl (by omega) HSN.out (by first | omega | decide) (by first | omega | decide) (by omega)).mono ?_
      rintro e w5 ⟨rfl, hb5⟩
      have hx5 := below_next hx4 hb5
      have HK5 := Lib.hid (HK4.out.below hb5)
      have HS5 := Lib.hid (HS4.out.next hb5)
      go_wp2_with fail
      refine (tape_Identifier g b _ HK5.out).mono ?_
      rintro e w6 ⟨x6, rfl, hv6, hs6, hk6, hg6⟩
      have HK6 := Lib.hid hk6
      have hx6 : Below w.heap.size w w6 := Below.grown hx5 hg6 hx5.size (fun q e => by injection e with e; omega)
      have HS6 : Hid (SliceIs w6 w6.heap.size Link.cells 10 A2 l) := HS5.out.grown hg6 HNE.out
      clear hk6
      go_wp2_with fail
      refine (looks_any A2 c2 l.length l (⟨⟨#[112, 101, 114, 115, 111, 110]⟩, 0, 0, ⟨#[]⟩⟩ : Ident) x6 seq _ HS6.out rfl (by omega) HSN.out (by first | omega | decide) (by first | omega | decide) (by omega)).mono ?_
      rintro e w7 ⟨rfl, hb7⟩
      have hx7 := below_next hx6 hb7
      have HK7 := Lib.hid (HK6.out.below hb7)
      have HS7 := Lib.hid (HS6.out.next hb7)
      go_wp2_with fail
      refine (tape_Identifier g b _ HK7.out).mono ?_
      rintro e w8 ⟨x8, rfl, hv8, hs8, hk8, hg8⟩
      have HK8 := Lib.hid hk8
      have hx8 : Below w.heap.size w w8 := Below.grown hx7 hg8 hx7.size (fun q e => by injection e with e; omega)
      have HS8 : Hid (SliceIs w8 w8.heap.size Link.cells 10 A2 l) := HS7.out.grown hg8 HNE.out
      clear hk8
      go_wp2_with fail
      refine (tape_Identifier g b _ HK8.out).mono ?_
      rintro e w9 ⟨x9, rfl, hv9, hs9, hk9, hg9⟩
      have HK9 := Lib.hid hk9
      have hx9 : Below w.heap.size w w9 := Below.grown hx8 hg9 hx8.size (fun q e => by injection e with e; omega)
      have HS9 : Hid (SliceIs w9 w9.heap.size Link.cells 10 A2 l) := HS8.out.grown hg9 HNE.out
      clear hk9
      go_wp2_with fail
      refine (looks_any A2 c2 l.length l x8 x9 seq _ HS9.out rfl (by omega) HSN.out (by first | omega | decide) (by first | omega | decide) (by omega)).mono ?_
      rintro e w10 ⟨rfl, hb10⟩
      have hx10 := below_next hx9 hb10
      have HK10 := Lib.hid (HK9.out.below hb10)
      have HS10 := Lib.hid (HS9.out.next hb10)
      go_wp2_with fail
      refine (awake_any _).mono ?_
      rintro e w11 ⟨rfl, hb11⟩
      go_wp2_with fail
      go_ret
      exact ⟨rfl, below_next hx10 hb11⟩
end Go.Proofs.Ytoleifehijccmaa
