/-
  No cell of these rows narrows 'for every input' (looked for: loops, veiled, ifaces, maps, wideKeys, modest, calm, conditions, laid).
  DERIVED. THE GIVEN ROWS OF THIS SEAT. 5 by the template 'for every input the law returns true; each argument reads behind the call as it read before'; 0 by the template 'total and deterministic' (their statements: YtmckeeegphgekaaGreatTotals.lean).
  GIVEN WITH THE SEED: the statements are not yours to turn. If you find one false, say at which input.
  Laid BY PROGRAM, IN A SANDBOX (cutbox-rows.mjs): the forced cells as the released guide's own fill.sh prints them over the translation a2fe10abd922f3da… (all of the seat's roots in one cut). By AI agents, Wed Nov 11 2026. No macro, syntax, notation, axiom, sorry.
-/
import Derived.Test.YtmckeeegphgekaaGreatChecked
import GoSem.Claim
import GoSem.ClaimJoined
import GoSem.ClaimMapViews
import Derived.JoinedTies
import Derived.KernelRfl
namespace Go.Proofs.YtmckeeegphgekaaGreat
/- THE CELL 'sum', in the pinned program and in every row, IS THE sha256 OF THE DUMP (.gsa) THAT YtmckeeegphgekaaGreatProg.lean LOADS. Nothing in Lean hashes anything: it is a label: what it is worth is what the hold of that sum in a sandbox is worth. -/
noncomputable def Tryz.pinned : Pinned := { name := "ytmckeeegphgekaagreat", sum := "a2fe10abd922f3dac559fcea1286144c61f5f88c4d22ac403afec338fc5905e7", checked := Tryz.checked }
namespace Rows
def none {H : Type} : Left H := { results := [], args := [] }

/-- 'erasurelaw19.HoldUntil': WHATEVER THE INPUT: true; the input reads as it did. -/
def holdUntilSpec : ChangeSpec := { name := "holdUntil", fn := fun _ => fun
  | [d] => { results := [.lit (.bool true)], args := [d] }
  | _ => none }
def holdUntilRow : OpenClaim := { program := "ytmckeeegphgekaagreat", sum := "a2fe10abd922f3dac559fcea1286144c61f5f88c4d22ac403afec338fc5905e7", func := "erasure/erasurelaw19.HoldUntil", spec := "holdUntil", inPlace := ["internal/bytealg.abigen_runtime_cmpstring"], unfollowed := true, recurses := true, apart := false }
def HoldUntilSaid : Prop := holdUntilRow.holds Tryz.pinned (OpenSpec.ofChange holdUntilSpec)

/-- ITS FALSE NEIGHBOUR: 'it returns false'. Refute it at one input. -/
def holdUntilWrong : ChangeSpec := { name := "holdUntil", fn := fun _ => fun
  | [d] => { results := [.lit (.bool false)], args := [d] }
  | _ => none }
def HoldUntilWrongFalsely : Prop := holdUntilRow.holds Tryz.pinned (OpenSpec.ofChange holdUntilWrong)

/-- 'erasurelaw19.HoldGrows': WHATEVER THE INPUT: true; the input reads as it did. -/
def holdGrowsSpec : ChangeSpec := { name := "holdGrows", fn := fun _ => fun
  | [d] => { results := [.lit (.bool true)], args := [d] }
  | _ => none }
def holdGrowsRow : OpenClaim := { program := "ytmckeeegphgekaagreat", sum := "a2fe10abd922f3dac559fcea1286144c61f5f88c4d22ac403afec338fc5905e7", func := "erasure/erasurelaw19.HoldGrows", spec := "holdGrows", inPlace := ["internal/bytealg.abigen_runtime_cmpstring"], unfollowed := true, recurses := true, apart := false }
def HoldGrowsSaid : Prop := holdGrowsRow.holds Tryz.pinned (OpenSpec.ofChange holdGrowsSpec)

/-- ITS FALSE NEIGHBOUR: 'it returns false'. Refute it at one input. -/
def holdGrowsWrong : ChangeSpec := { name := "holdGrows", fn := fun _ => fun
  | [d] => { results := [.lit (.bool false)], args := [d] }
  | _ => none }
def HoldGrowsWrongFalsely : Prop := holdGrowsRow.holds Tryz.pinned (OpenSpec.ofChange holdGrowsWrong)

/-- 'erasurelaw19.HoldTogether': WHATEVER THE INPUT: true; the input reads as it did. -/
def holdTogetherSpec : ChangeSpec := { name := "holdTogether", fn := fun _ => fun
  | [d] => { results := [.lit (.bool true)], args := [d] }
  | _ => none }
def holdTogetherRow : OpenClaim := { program := "ytmckeeegphgekaagreat", sum := "a2fe10abd922f3dac559fcea1286144c61f5f88c4d22ac403afec338fc5905e7", func := "erasure/erasurelaw19.HoldTogether", spec := "holdTogether", inPlace := ["internal/bytealg.abigen_runtime_cmpstring"], unfollowed := true, recurses := true, apart := false }
def HoldTogetherSaid : Prop := holdTogetherRow.holds Tryz.pinned (OpenSpec.ofChange holdTogetherSpec)

/-- ITS FALSE NEIGHBOUR: 'it returns false'. Refute it at one input. -/
def holdTogetherWrong : ChangeSpec := { name := "holdTogether", fn := fun _ => fun
  | [d] => { results := [.lit (.bool false)], args := [d] }
  | _ => none }
def HoldTogetherWrongFalsely : Prop := holdTogetherRow.holds Tryz.pinned (OpenSpec.ofChange holdTogetherWrong)

/-- 'erasurelaw19.HoldLooks': WHATEVER THE INPUT: true; the input reads as it did. -/
def holdLooksSpec : ChangeSpec := { name := "holdLooks", fn := fun _ => fun
  | [d1, d2] => { results := [.lit (.bool true)], args := [d1, d2] }
  | _ => none }
def holdLooksRow : OpenClaim := { program := "ytmckeeegphgekaagreat", sum := "a2fe10abd922f3dac559fcea1286144c61f5f88c4d22ac403afec338fc5905e7", func := "erasure/erasurelaw19.HoldLooks", spec := "holdLooks", inPlace := ["internal/bytealg.abigen_runtime_cmpstring"], unfollowed := true, recurses := true, apart := false }
def HoldLooksSaid : Prop := holdLooksRow.holds Tryz.pinned (OpenSpec.ofChange holdLooksSpec)

/-- ITS FALSE NEIGHBOUR: 'it returns false'. Refute it at one input. -/
def holdLooksWrong : ChangeSpec := { name := "holdLooks", fn := fun _ => fun
  | [d1, d2] => { results := [.lit (.bool false)], args := [d1, d2] }
  | _ => none }
def HoldLooksWrongFalsely : Prop := holdLooksRow.holds Tryz.pinned (OpenSpec.ofChange holdLooksWrong)

/-- 'erasurelaw19.HoldRaw': WHATEVER THE INPUT: true; the input reads as it did. -/
def holdRawSpec : ChangeSpec := { name := "holdRaw", fn := fun _ => fun
  | [d1, d2, d3] => { results := [.lit (.bool true)], args := [d1, d2, d3] }
  | _ => none }
def holdRawRow : OpenClaim := { program := "ytmckeeegphgekaagreat", sum := "a2fe10abd922f3dac559fcea1286144c61f5f88c4d22ac403afec338fc5905e7", func := "erasure/erasurelaw19.HoldRaw", spec := "holdRaw", inPlace := ["internal/bytealg.abigen_runtime_cmpstring"], unfollowed := true, recurses := true, apart := false }
def HoldRawSaid : Prop := holdRawRow.holds Tryz.pinned (OpenSpec.ofChange holdRawSpec)

/-- ITS FALSE NEIGHBOUR: 'it returns false'. Refute it at one input. -/
def holdRawWrong : ChangeSpec := { name := "holdRaw", fn := fun _ => fun
  | [d1, d2, d3] => { results := [.lit (.bool false)], args := [d1, d2, d3] }
  | _ => none }
def HoldRawWrongFalsely : Prop := holdRawRow.holds Tryz.pinned (OpenSpec.ofChange holdRawWrong)

/- THE SECOND FORM. 'bulk': how many values and letters a reading holds, each counted each time it is reached (what is shared counts as often as it is met; a slice's spare places count too). A statement '..UptoSaid' is the law's where the arguments, and the package variables that the reading takes, are together of bulk at most 1048576: NARROWER than '..Said'. Prove '..Said' where nothing that the law and all that it calls make is longer than what came in: it says more and counts as full. Else prove '..UptoSaid'. A law counts once. -/
mutual
def uptoBulk {H : Type} : DataW H → Nat
  | .lit (.string bytes) => bytes.length + 1
  | .lit _ => 1
  | .nil => 1
  | .ptr d => uptoBulk d + 1
  | .slice elems spare => uptoBulkAll elems + uptoBulkAll spare + 1
  | .agg parts => uptoBulkAll parts + 1
  | .iface _ d => uptoBulk d + 1
  | .map entries => uptoBulkEntries entries + 1
  | .held _ => 1
def uptoBulkAll {H : Type} : List (DataW H) → Nat
  | [] => 0
  | d :: r => uptoBulk d + uptoBulkAll r
def uptoBulkEntries {H : Type} : List (Lit × DataW H) → Nat
  | [] => 0
  | x :: r => uptoBulkEntry x + uptoBulkEntries r
def uptoBulkEntry {H : Type} : Lit × DataW H → Nat
  | (.string bytes, d) => bytes.length + uptoBulk d + 1
  | (_, d) => uptoBulk d + 1
 end
def uptoSmall : (H : Type) → List (DataW H) → Bool := fun _ ds => decide (uptoBulkAll ds ≤ 1048576)
def OpenSpec.upto (s : _root_.Go.ChangeSpec) : _root_.Go.OpenSpec := { _root_.Go.OpenSpec.ofChange s with cond := some uptoSmall }

/-- 'erasurelaw19.HoldUntil', WHERE WHAT IT READS IS OF BULK AT MOST 1048576: true; the input reads as it did. -/
def holdUntilUptoRow : OpenClaim := { program := "ytmckeeegphgekaagreat", sum := "a2fe10abd922f3dac559fcea1286144c61f5f88c4d22ac403afec338fc5905e7", func := "erasure/erasurelaw19.HoldUntil", spec := "holdUntil", inPlace := ["internal/bytealg.abigen_runtime_cmpstring"], unfollowed := true, recurses := true, apart := false, narrowed := true }
def HoldUntilUptoSaid : Prop := holdUntilUptoRow.holds Tryz.pinned (OpenSpec.upto holdUntilSpec)

/-- 'erasurelaw19.HoldGrows', WHERE WHAT IT READS IS OF BULK AT MOST 1048576: true; the input reads as it did. -/
def holdGrowsUptoRow : OpenClaim := { program := "ytmckeeegphgekaagreat", sum := "a2fe10abd922f3dac559fcea1286144c61f5f88c4d22ac403afec338fc5905e7", func := "erasure/erasurelaw19.HoldGrows", spec := "holdGrows", inPlace := ["internal/bytealg.abigen_runtime_cmpstring"], unfollowed := true, recurses := true, apart := false, narrowed := true }
def HoldGrowsUptoSaid : Prop := holdGrowsUptoRow.holds Tryz.pinned (OpenSpec.upto holdGrowsSpec)

/-- 'erasurelaw19.HoldTogether', WHERE WHAT IT READS IS OF BULK AT MOST 1048576: true; the input reads as it did. -/
def holdTogetherUptoRow : OpenClaim := { program := "ytmckeeegphgekaagreat", sum := "a2fe10abd922f3dac559fcea1286144c61f5f88c4d22ac403afec338fc5905e7", func := "erasure/erasurelaw19.HoldTogether", spec := "holdTogether", inPlace := ["internal/bytealg.abigen_runtime_cmpstring"], unfollowed := true, recurses := true, apart := false, narrowed := true }
def HoldTogetherUptoSaid : Prop := holdTogetherUptoRow.holds Tryz.pinned (OpenSpec.upto holdTogetherSpec)

/-- 'erasurelaw19.HoldLooks', WHERE WHAT IT READS IS OF BULK AT MOST 1048576: true; the input reads as it did. -/
def holdLooksUptoRow : OpenClaim := { program := "ytmckeeegphgekaagreat", sum := "a2fe10abd922f3dac559fcea1286144c61f5f88c4d22ac403afec338fc5905e7", func := "erasure/erasurelaw19.HoldLooks", spec := "holdLooks", inPlace := ["internal/bytealg.abigen_runtime_cmpstring"], unfollowed := true, recurses := true, apart := false, narrowed := true }
def HoldLooksUptoSaid : Prop := holdLooksUptoRow.holds Tryz.pinned (OpenSpec.upto holdLooksSpec)

/-- 'erasurelaw19.HoldRaw', WHERE WHAT IT READS IS OF BULK AT MOST 1048576: true; the input reads as it did. -/
def holdRawUptoRow : OpenClaim := { program := "ytmckeeegphgekaagreat", sum := "a2fe10abd922f3dac559fcea1286144c61f5f88c4d22ac403afec338fc5905e7", func := "erasure/erasurelaw19.HoldRaw", spec := "holdRaw", inPlace := ["internal/bytealg.abigen_runtime_cmpstring"], unfollowed := true, recurses := true, apart := false, narrowed := true }
def HoldRawUptoSaid : Prop := holdRawUptoRow.holds Tryz.pinned (OpenSpec.upto holdRawSpec)

end Rows
end Go.Proofs.YtmckeeegphgekaaGreat
