/-
  Words for memory and for the data of the layers: values, identifiers, links; a slice of structs that reads as a list. Plain lemmas, no program.
-/
import Derived.WalkKit
import Derived.WalkSpells
import Derived.WalkLawsBesides
import Derived.Deep.QuietTactic
import Derived.BigQuiet
import Derived.Laws.StructEq
import Derived.Lib.Hide
import Derived.Sort.Grow
namespace Go.Proofs.Ytoleifehijccmaa
set_option linter.unusedVariables false
open Go.RowKit

/-- A value of a cell: kind, number, text. -/
structure Val where
  kind : Int
  num : Int
  text : ByteArray

/-- An identifier: a namespace and a value. -/
structure Ident where
  ns : ByteArray
  val : Val

/-- A link or a revocation. -/
structure Link where
  a : Ident
  b : Ident
  seq : Int
  rev : Bool

theorem ba_ext {a b : ByteArray} (h : a.toList = b.toList) : a = b := by
  rw [ByteArray.toList_eq, ByteArray.toList_eq] at h
  obtain ⟨⟨x⟩⟩ := a
  obtain ⟨⟨y⟩⟩ := b
  simp at h
  rw [h]

instance : DecidableEq ByteArray := fun a b => if h : a.toList = b.toList then isTrue (ba_ext h) else isFalse (fun e => h (by rw [e]))
instance : DecidableEq Val := fun a b =>
  if h : a.kind = b.kind ∧ a.num = b.num ∧ a.text = b.text then isTrue (by obtain ⟨_, _, _⟩ := a; obtain ⟨_, _, _⟩ := b; simp at h; simp [h])
  else isFalse (fun e => h (by simp [e]))
instance : DecidableEq Ident := fun a b =>
  if h : a.ns = b.ns ∧ a.val = b.val then isTrue (by obtain ⟨_, _⟩ := a; obtain ⟨_, _⟩ := b; simp at h; simp [h])
  else isFalse (fun e => h (by simp [e]))
instance : DecidableEq Link := fun a b =>
  if h : a.a = b.a ∧ a.b = b.b ∧ a.seq = b.seq ∧ a.rev = b.rev then isTrue (by obtain ⟨_, _, _, _⟩ := a; obtain ⟨_, _, _, _⟩ := b; simp at h; simp [h])
  else isFalse (fun e => h (by simp [e]))

theorem ba_eq_iff {a b : ByteArray} : a.toList = b.toList ↔ a = b := ⟨ba_ext, fun h => by rw [h]⟩

/-- What stands below a call's blocks, read cell by cell. -/
theorem bcell {W w1 : World} (hb : Below W.heap.size W w1) : (∀ b o, b < W.heap.size → w1.cell? ⟨b, o, none⟩ = W.cell? ⟨b, o, none⟩) ∧ (∀ b o, b < W.heap.size → w1.frozen? ⟨b, o, none⟩ = W.frozen? ⟨b, o, none⟩) :=
  ⟨fun b o h => hb.cell (p := ⟨b, o, none⟩) h, fun b o h => hb.frozen (p := ⟨b, o, none⟩) h⟩
theorem below_drewN {B : Nat} {a w : World} (h : Below B a w) (n : Nat) : Below B a (w.drewN n) := ⟨h.os, h.tape, h.output, h.size, h.block⟩
theorem below_next {w W w1 : World} (h : Below w.heap.size w W) (hb : Below W.heap.size W w1) : Below w.heap.size w w1 := h.trans (hb.mono h.size)
theorem below_nextN {w W w1 : World} {B : Nat} (h : Below B w W) (hb : Below W.heap.size W w1) (hB : B ≤ W.heap.size) : Below B w w1 := h.trans (hb.mono hB)
theorem ret_int {k : IntKind} {a b : Int} (h : a = b) : Ending.returned (.int k a) = .returned (.int k b) := by rw [h]
theorem ret_bool {a b : Bool} (h : a = b) : Ending.returned (.bool a) = .returned (.bool b) := by rw [h]

/-- w' is w with new blocks behind it, and some more draws. -/
def Ext (w w' : World) : Prop := Below w.heap.size w w' ∧ w.drawn ≤ w'.drawn
theorem Ext.below {w w' : World} (h : Ext w w') : Below w.heap.size w w' := h.1
theorem Ext.size {w w' : World} (h : Ext w w') : w.heap.size ≤ w'.heap.size := h.1.size
theorem Ext.refl (w : World) : Ext w w := ⟨Below.refl _ _, Nat.le_refl _⟩
theorem Ext.trans {a b c : World} (h : Ext a b) (k : Ext b c) : Ext a c := ⟨below_next h.1 k.1, Nat.le_trans h.2 k.2⟩
theorem Ext.alloc {a w : World} (h : Ext a w) (o : Obj) : Ext a (w.alloc o) := ⟨h.1.alloc h.1.size o, h.2⟩
theorem Ext.drew {a w : World} (h : Ext a w) : Ext a w.drew := ⟨h.1.drew, Nat.le_succ_of_le h.2⟩
theorem Ext.drewN {a w : World} (h : Ext a w) (n : Nat) : Ext a (w.drewN n) := ⟨below_drewN h.1 n, by
  have : (w.drewN n).drawn = w.drawn + n := rfl
  have := h.2
  omega⟩
theorem Ext.setCell {a w : World} (h : Ext a w) {p : Addr} (hp : a.heap.size ≤ p.block) (u : Value) : Ext a (w.setCell p u) := ⟨h.1.setCell hp u, h.2⟩
theorem Ext.grow {w w' : World} (h : Ext w w') : ∃ q os, w' = Sort.grow (w.drewN q) os := by
  obtain ⟨⟨h1, h2, h3, h4, h5⟩, hd⟩ := h
  refine ⟨w'.drawn - w.drawn, w'.heap.extract w.heap.size w'.heap.size, ?_⟩
  obtain ⟨hp, tp, dr, os, out⟩ := w
  obtain ⟨hp', tp', dr', os', out'⟩ := w'
  simp only [World.drewN, Sort.grow] at *
  have e : hp' = hp ++ hp'.extract hp.size hp'.size := by
    apply Array.ext_getElem?
    intro i
    rw [Array.getElem?_append]
    split
    · rename_i hi
      exact h5 i hi
    · rename_i hi
      rw [Array.getElem?_extract]
      split
      · congr 1; omega
      · rw [Array.getElem?_eq_none]; omega
  subst h1 h2 h3
  rw [← e]
  congr 1
  omega
/-- One block's cells are kept by a call that only extends. -/
theorem keepE {W w1 : World} (he : Ext W w1) (g : Nat) (hg : g < W.heap.size) :
    (∀ o, w1.cell? ⟨g, o, none⟩ = W.cell? ⟨g, o, none⟩) ∧ (∀ o, w1.frozen? ⟨g, o, none⟩ = W.frozen? ⟨g, o, none⟩) ∧ g < w1.heap.size :=
  ⟨fun o => he.1.cell (p := ⟨g, o, none⟩) hg, fun o => he.1.frozen (p := ⟨g, o, none⟩) hg, Nat.lt_of_lt_of_le hg he.1.size⟩
theorem keepB {W w1 : World} (hb : Below W.heap.size W w1) (g : Nat) (hg : g < W.heap.size) :
    (∀ o, w1.cell? ⟨g, o, none⟩ = W.cell? ⟨g, o, none⟩) ∧ (∀ o, w1.frozen? ⟨g, o, none⟩ = W.frozen? ⟨g, o, none⟩) ∧ g < w1.heap.size :=
  ⟨fun o => hb.cell (p := ⟨g, o, none⟩) hg, fun o => hb.frozen (p := ⟨g, o, none⟩) hg, Nat.lt_of_lt_of_le hg hb.size⟩

/-! Regions that draw their order, whose operations read and whose callees only make new memory: one walk in the order of the text. -/
/-- A world that keeps all that lay in w. -/
structure BelOf (w : World) where
  u : World
  h : Below w.heap.size w u

instance (w : World) : Inhabited (BelOf w) := ⟨⟨w, Below.refl _ _⟩⟩

theorem wp_region_bel {P : Program} {id : Nat} {Q : Exit → Act → World → Prop} {a : Act} {w : World} {l : List Oper} (hm : P.follows .mixedOrders = true) (hB : Region.lexB .any l.toArray = true)
    (h : wpQuiet P l.toArray (fun w' => ∃ x : BelOf w, w' = x.u) (fun a' => ∀ w', Below w.heap.size w w' → Q .normal a' w') l a) : (Code.region id l.toArray true).wp P Q a w := by
  have e : (fun a' => ∀ w', Below w.heap.size w w' → Q .normal a' w') = (fun a' => ∀ w', (∃ x : BelOf w, w' = x.u) → Q .normal a' w') := by
    funext a'
    apply propext
    exact ⟨fun h w' ⟨x, hx⟩ => by subst hx; exact h _ x.h, fun h w' hb => h w' ⟨⟨w', hb⟩, rfl⟩⟩
  rw [e] at h
  exact wp_region_quiet (C := fun w' => ∃ x : BelOf w, w' = x.u) hm hB ⟨⟨w.drew, (Below.refl _ _).drew⟩, rfl⟩ (by simpa using h)
theorem bel_of {P : Program} {f : FuncId} {args : Array Value} {w : World} {x : BelOf w} {v : Value}
    (h : Calls P f args x.u fun e w' => e = .returned v ∧ Below x.u.heap.size x.u w') : Calls P f args x.u fun e w'' => e = .returned v ∧ ∃ y : BelOf w, w'' = y.u :=
  h.mono fun _ w' ⟨he, hb⟩ => ⟨he, ⟨w', below_next x.h hb⟩, rfl⟩
theorem bel_of_ext {P : Program} {f : FuncId} {args : Array Value} {w : World} {x : BelOf w} {v : Value}
    (h : Calls P f args x.u fun e w' => e = .returned v ∧ Ext x.u w') : Calls P f args x.u fun e w'' => e = .returned v ∧ ∃ y : BelOf w, w'' = y.u :=
  h.mono fun _ w' ⟨he, hb⟩ => ⟨he, ⟨w', below_next x.h hb.1⟩, rfl⟩
theorem bel_of_same {P : Program} {f : FuncId} {args : Array Value} {w : World} {x : BelOf w} {v : Value}
    (h : Calls P f args x.u fun e w' => e = .returned v ∧ x.u = w') : Calls P f args x.u fun e w'' => e = .returned v ∧ ∃ y : BelOf w, w'' = y.u :=
  h.mono fun _ _ ⟨he, hb⟩ => ⟨he, x, hb.symm⟩
theorem keepQ {w : World} (g : Nat) (hg : g < w.heap.size) : ∀ (x : BelOf w) (o : Nat), x.u.cell? ⟨g, o, none⟩ = w.cell? ⟨g, o, none⟩ :=
  fun x o => x.h.cell (p := ⟨g, o, none⟩) hg

/-! A slice of structs, read as a list. -/
/-- The slice value '.slice A l.length c' holds the elements l, k cells each, below block B. -/
def SliceIs {α : Type} (w : World) (B : Nat) (enc : α → List Value) (k : Nat) (A : Option Addr) (l : List α) : Prop :=
  0 < l.length → ∃ b o, A = some ⟨b, o, none⟩ ∧ b < B ∧ ∀ i (h : i < l.length) j u, (enc l[i])[j]? = some u → w.cell? ⟨b, o + (i * k + j), none⟩ = some u
section
variable {α : Type} {w w' : World} {B B' : Nat} {enc : α → List Value} {k : Nat} {A : Option Addr} {l : List α}
theorem SliceIs.nil : SliceIs w B enc k A [] := fun h => absurd h (by simp)
theorem SliceIs.below (h : SliceIs w B enc k A l) (hb : Below B w w') : SliceIs w' B enc k A l := by
  intro hl
  obtain ⟨b, o, rfl, hB, hc⟩ := h hl
  exact ⟨b, o, rfl, hB, fun i hi j u hu => (hb.cell (by exact hB)).trans (hc i hi j u hu)⟩
theorem SliceIs.mono (h : SliceIs w B enc k A l) (hB : B ≤ B') : SliceIs w B' enc k A l := by
  intro hl
  obtain ⟨b, o, rfl, hb, hc⟩ := h hl
  exact ⟨b, o, rfl, by omega, hc⟩
theorem SliceIs.next (h : SliceIs w w.heap.size enc k A l) (hb : Below w.heap.size w w') : SliceIs w' w'.heap.size enc k A l :=
  (h.below hb).mono hb.size
/-- The element at i: its block, and its cells from its own offset on. -/
theorem SliceIs.get (h : SliceIs w B enc k A l) {i : Nat} (hi : i < l.length) : ∃ b o, A = some ⟨b, o, none⟩ ∧ b < B ∧ ∀ j u, (enc l[i])[j]? = some u → w.cell? ⟨b, o + i * k + j, none⟩ = some u := by
  obtain ⟨b, o, rfl, hb, hc⟩ := h (by omega)
  exact ⟨b, o, rfl, hb, fun j u hu => by rw [Nat.add_assoc]; exact hc i hi j u hu⟩
end

/-! The cells of the data. -/
def Val.cells (x : Val) : List Value := [.int .i64 x.kind, .int .i64 x.num, .string x.text]
def Ident.cells (x : Ident) : List Value := [.string x.ns, .int .i64 x.val.kind, .int .i64 x.val.num, .string x.val.text]
def Link.cells (x : Link) : List Value := [.string x.a.ns, .int .i64 x.a.val.kind, .int .i64 x.a.val.num, .string x.a.val.text, .string x.b.ns, .int .i64 x.b.val.kind, .int .i64 x.b.val.num, .string x.b.val.text, .int .i64 x.seq, .bool x.rev]
theorem Ident.cells4 {w : World} {b o : Nat} {x : Ident} (h : ∀ j u, x.cells[j]? = some u → w.cell? ⟨b, o + j, none⟩ = some u) :
    w.cell? ⟨b, o, none⟩ = some (.string x.ns) ∧ w.cell? ⟨b, o + 1, none⟩ = some (.int .i64 x.val.kind) ∧ w.cell? ⟨b, o + 2, none⟩ = some (.int .i64 x.val.num) ∧ w.cell? ⟨b, o + 3, none⟩ = some (.string x.val.text) :=
  ⟨h 0 _ rfl, h 1 _ rfl, h 2 _ rfl, h 3 _ rfl⟩
theorem Link.cells10 {w : World} {b o : Nat} {x : Link} (h : ∀ j u, x.cells[j]? = some u → w.cell? ⟨b, o + j, none⟩ = some u) :
    (w.cell? ⟨b, o, none⟩ = some (.string x.a.ns) ∧ w.cell? ⟨b, o + 1, none⟩ = some (.int .i64 x.a.val.kind) ∧ w.cell? ⟨b, o + 2, none⟩ = some (.int .i64 x.a.val.num) ∧ w.cell? ⟨b, o + 3, none⟩ = some (.string x.a.val.text)) ∧
    (w.cell? ⟨b, o + 4, none⟩ = some (.string x.b.ns) ∧ w.cell? ⟨b, o + 5, none⟩ = some (.int .i64 x.b.val.kind) ∧ w.cell? ⟨b, o + 6, none⟩ = some (.int .i64 x.b.val.num) ∧ w.cell? ⟨b, o + 7, none⟩ = some (.string x.b.val.text)) ∧
    w.cell? ⟨b, o + 8, none⟩ = some (.int .i64 x.seq) ∧ w.cell? ⟨b, o + 9, none⟩ = some (.bool x.rev) :=
  ⟨⟨h 0 _ rfl, h 1 _ rfl, h 2 _ rfl, h 3 _ rfl⟩, ⟨h 4 _ rfl, h 5 _ rfl, h 6 _ rfl, h 7 _ rfl⟩, h 8 _ rfl, h 9 _ rfl⟩
end Go.Proofs.Ytoleifehijccmaa
