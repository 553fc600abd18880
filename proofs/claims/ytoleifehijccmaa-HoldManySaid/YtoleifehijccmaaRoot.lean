/-
  Layer 16: (forest).root finds the root and keeps all roots.
-/
import Derived.Test.YtoleifehijccmaaForest
import Derived.Test.YtoleifehijccmaaOwn
import Derived.Test.YtoleifehijccmaaProg
import Derived.Deep.LoopGhost
namespace Go.Proofs.Ytoleifehijccmaa
set_option linter.unusedVariables false
open Go.RowKit

/-- Block g holds just these numbers. -/
def IntBlk (w : World) (g : Nat) (f : List Nat) : Prop := Blk w g 3 (f.map (fun x : Nat => Value.int .i64 (x : Int))).toArray
theorem IntBlk.cell {w : World} {g : Nat} {f : List Nat} (h : IntBlk w g f) {i p : Nat} (hp : f[i]? = some p) : w.cell? ⟨g, i, none⟩ = some (.int .i64 p) := by
  rw [Blk.cell h]
  simp [hp]
theorem IntBlk.set_ {w : World} {g : Nat} {f : List Nat} (h : IntBlk w g f) (i q : Nat) : IntBlk (w.setCell ⟨g, i, none⟩ (.int .i64 q)) g (f.set i q) := by
  have h1 := Blk.set_ h i (.int .i64 (q : Int))
  unfold IntBlk
  have e : (List.map (fun x : Nat => Value.int .i64 (x : Int)) (f.set i q)).toArray = ((List.map (fun x : Nat => Value.int .i64 (x : Int)) f).toArray).setIfInBounds i (.int .i64 (q : Int)) := by
    simp [List.map_set]
  rw [e]
  exact h1
theorem only_setCell {a w : World} {g : Nat} (h : a.grownBy w (some g)) {p : Addr} (hp : p.block = g ∨ a.heap.size ≤ p.block) (u : Value) : a.grownBy (w.setCell p u) (some g) :=
  ⟨h.os, h.tape, h.output, by simpa [World.setCell] using h.size, fun i hi hne => (Below.heap_setCell w p u i (by
    rintro rfl
    rcases hp with hp | hp
    · exact hne (by rw [hp])
    · omega)).trans (h.block i hi hne)⟩
theorem only_of_below {a w : World} (h : Below a.heap.size a w) (row : Option Nat) : a.grownBy w row := ⟨h.os, h.tape, h.output, h.size, fun i hi _ => h.block i hi⟩
theorem grown_drew {a w : World} {row : Option Nat} (h : a.grownBy w row) : a.grownBy w.drew row := ⟨h.os, h.tape, h.output, h.size, h.block⟩
theorem grown_drewN {a w : World} {row : Option Nat} (h : a.grownBy w row) (n : Nat) : a.grownBy (w.drewN n) row := ⟨h.os, h.tape, h.output, h.size, h.block⟩
theorem grown_alloc {a w : World} {row : Option Nat} (h : a.grownBy w row) (o : Obj) : a.grownBy (w.alloc o) row :=
  ⟨h.os, h.tape, h.output, Nat.le_trans h.size (by simp), fun i hi hne => (Below.heap_alloc w o i (Nat.lt_of_lt_of_le hi h.size)).trans (h.block i hi hne)⟩
theorem grown_trans {a b c : World} {row : Option Nat} (h : a.grownBy b row) (k : b.grownBy c row) : a.grownBy c row :=
  ⟨k.os.trans h.os, k.tape.trans h.tape, k.output.trans h.output, Nat.le_trans h.size k.size, fun i hi hne => (k.block i (Nat.lt_of_lt_of_le hi h.size) hne).trans (h.block i hi hne)⟩

set_option maxHeartbeats 400000 in
theorem forest_root (g c : Nat) (f : List Nat) (i : Nat) (w : World) (hB : IntBlk w g f) (hf : Forest f) (hi : i < f.length) (hlen : f.length ≤ 1000000) :
    Calls Try.prog 56 #[.slice (some ⟨g, 0, none⟩) f.length c, .int .i64 i] w fun e w' =>
      ∃ r f', Root f i r ∧ SameRoots f f' ∧ e = .returned (.int .i64 r) ∧ IntBlk w' g f' ∧ w.grownBy w' (some g) := by
  obtain ⟨r, d, hr⟩ := hf i hi
  have HF := Lib.hid hf
  have HR := Lib.hid hr
  clear hf hr
  go_enter Try.func56, Try.ntmps56
  go_wp2
  go_loopg [1] d (fun k vi wr => ∃ (j : Nat) (f' : List Nat), vi = .int .i64 j ∧ RootN f' j r k ∧ SameRoots f f' ∧ IntBlk wr g f' ∧ w.grownBy wr (some g))
  case atStart => exact ⟨i, f, rfl, HR.out, SameRoots.refl _, hB, World.grownBy.refl _ _⟩
  case round =>
    obtain ⟨j, f', rfl, hj, hs, hB', hg⟩ := hrel
    have hjl := hj.lt
    have hfl := hs.1
    have HS := Lib.hid hs
    have HJ := Lib.hid hj
    have HB' := Lib.hid hB'
    rw [hfl] at hjl
    cases hj with
    | here e =>
      have hc := hB'.cell e
      have ht : ((r : Int) != (r : Int)) = false := by simp
      clear hs hfl hB' e
      go_wp2
      go_ret
      exact ⟨r, f', ⟨d, HR.out⟩, HS.out, rfl, HB'.out, hg⟩
    | @up _ p _ k e hne h2 =>
      have hpl := h2.lt
      rw [hfl] at hpl
      have hc := hB'.cell e
      have ht : ((p : Int) != (j : Int)) = true := by simp; omega
      obtain ⟨q, hq⟩ : ∃ q, f'[p]? = some q := ⟨_, List.getElem?_eq_getElem h2.lt⟩
      have hc2 := hB'.cell hq
      have hfz := Blk.frozen HB'.out j
      clear hs hfl hB'
      have HE := Lib.hid e
      have HN := Lib.hid hne
      have HQ := Lib.hid hq
      have H2 := Lib.hid h2
      clear e hne hq h2
      have hk : ∃ k', k' ≤ k ∧ RootN (f'.set j q) q r k' := by
        have h1 : ∃ kq, kq ≤ k ∧ RootN f' q r kq := by
          have h := H2.out
          cases h with
          | here e =>
            have e2 := HQ.out
            rw [e] at e2
            injection e2 with e2
            subst e2
            exact ⟨0, Nat.le_refl _, .here e⟩
          | up e _ h3 =>
            have e2 := HQ.out
            rw [e] at e2
            injection e2 with e2
            subst e2
            exact ⟨_, by omega, h3⟩
        obtain ⟨kq, hkq, h2⟩ := h1
        obtain ⟨d', hd', h3⟩ := RootN.halve HE.out HN.out HQ.out h2
        exact ⟨d', by omega, h3⟩
      obtain ⟨k', hk', hr'⟩ := hk
      have HR' := Lib.hid hr'
      clear hr'
      go_wp2
      go_roundg k'
      case measure => omega
      case rel => exact ⟨q, f'.set j q, rfl, HR'.out, HS.out.trans (sameRoots_halve (HS.out.forest HF.out) HE.out HN.out HQ.out), HB'.out.set_ j q, only_setCell hg (.inl rfl) _⟩
end Go.Proofs.Ytoleifehijccmaa
