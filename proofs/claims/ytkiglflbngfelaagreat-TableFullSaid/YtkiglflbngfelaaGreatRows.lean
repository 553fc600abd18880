/-
  No cell of these rows narrows 'for every input' (looked for: loops, veiled, ifaces, maps, wideKeys, modest, calm, conditions, laid).
  DERIVED. THE GIVEN ROWS OF THIS SEAT. 5 by the template 'for every input the law returns true; each argument reads behind the call as it read before'; 0 by the template 'total and deterministic' (their statements: YtkiglflbngfelaaGreatTotals.lean).
  GIVEN WITH THE SEED: the statements are not yours to turn. If you find one false, say at which input.
  Laid BY PROGRAM, IN A SANDBOX (cutbox-rows.mjs): the forced cells as the released guide's own fill.sh prints them over the translation 6ed6474dbc17439b… (all of the seat's roots in one cut). By AI agents, Wed Nov 11 2026. No macro, syntax, notation, axiom, sorry.
-/
import Derived.Test.YtkiglflbngfelaaGreatChecked
import GoSem.Claim
import GoSem.ClaimJoined
import GoSem.ClaimMapViews
import Derived.JoinedTies
import Derived.KernelRfl
namespace Go.Proofs.YtkiglflbngfelaaGreat
/- THE CELL 'sum', in the pinned program and in every row, IS THE sha256 OF THE DUMP (.gsa) THAT YtkiglflbngfelaaGreatProg.lean LOADS. Nothing in Lean hashes anything: it is a label: what it is worth is what the hold of that sum in a sandbox is worth. -/
noncomputable def Tryz.pinned : Pinned := { name := "ytkiglflbngfelaagreat", sum := "6ed6474dbc17439b605748a63b958f0542d3e7dddd930580e6289adad44b2ca3", checked := Tryz.checked }
namespace Rows
def none {H : Type} : Left H := { results := [], args := [] }

/-- 'erasurelaw07.TablePositions': WHATEVER THE INPUT: true; the input reads as it did. -/
def tablePositionsSpec : ChangeSpec := { name := "tablePositions", fn := fun _ => fun
  | [d] => { results := [.lit (.bool true)], args := [d] }
  | _ => none }
def tablePositionsRow : OpenClaim := { program := "ytkiglflbngfelaagreat", sum := "6ed6474dbc17439b605748a63b958f0542d3e7dddd930580e6289adad44b2ca3", func := "erasure/erasurelaw07.TablePositions", spec := "tablePositions", inPlace := ["internal/bytealg.abigen_runtime_cmpstring", "slices.overlaps[erasure/api.Record]"], unfollowed := true, recurses := true, plainKeys := false, apart := false }
def TablePositionsSaid : Prop := tablePositionsRow.holds Tryz.pinned (OpenSpec.ofChange tablePositionsSpec)

/-- ITS FALSE NEIGHBOUR: 'it returns false'. Refute it at one input. -/
def tablePositionsWrong : ChangeSpec := { name := "tablePositions", fn := fun _ => fun
  | [d] => { results := [.lit (.bool false)], args := [d] }
  | _ => none }
def TablePositionsWrongFalsely : Prop := tablePositionsRow.holds Tryz.pinned (OpenSpec.ofChange tablePositionsWrong)

/-- 'erasurelaw07.TableArbitrary': WHATEVER THE INPUT: true; the input reads as it did. -/
def tableArbitrarySpec : ChangeSpec := { name := "tableArbitrary", fn := fun _ => fun
  | [d1, d2] => { results := [.lit (.bool true)], args := [d1, d2] }
  | _ => none }
def tableArbitraryRow : OpenClaim := { program := "ytkiglflbngfelaagreat", sum := "6ed6474dbc17439b605748a63b958f0542d3e7dddd930580e6289adad44b2ca3", func := "erasure/erasurelaw07.TableArbitrary", spec := "tableArbitrary", inPlace := ["internal/bytealg.abigen_runtime_cmpstring", "slices.overlaps[erasure/api.Record]"], unfollowed := true, recurses := true, plainKeys := false, apart := false }
def TableArbitrarySaid : Prop := tableArbitraryRow.holds Tryz.pinned (OpenSpec.ofChange tableArbitrarySpec)

/-- ITS FALSE NEIGHBOUR: 'it returns false'. Refute it at one input. -/
def tableArbitraryWrong : ChangeSpec := { name := "tableArbitrary", fn := fun _ => fun
  | [d1, d2] => { results := [.lit (.bool false)], args := [d1, d2] }
  | _ => none }
def TableArbitraryWrongFalsely : Prop := tableArbitraryRow.holds Tryz.pinned (OpenSpec.ofChange tableArbitraryWrong)

/-- 'erasurelaw07.TableSteps': WHATEVER THE INPUT: true; the input reads as it did. -/
def tableStepsSpec : ChangeSpec := { name := "tableSteps", fn := fun _ => fun
  | [d] => { results := [.lit (.bool true)], args := [d] }
  | _ => none }
def tableStepsRow : OpenClaim := { program := "ytkiglflbngfelaagreat", sum := "6ed6474dbc17439b605748a63b958f0542d3e7dddd930580e6289adad44b2ca3", func := "erasure/erasurelaw07.TableSteps", spec := "tableSteps", inPlace := ["internal/bytealg.abigen_runtime_cmpstring", "slices.overlaps[erasure/api.Record]"], unfollowed := true, recurses := true, plainKeys := false, apart := false }
def TableStepsSaid : Prop := tableStepsRow.holds Tryz.pinned (OpenSpec.ofChange tableStepsSpec)

/-- ITS FALSE NEIGHBOUR: 'it returns false'. Refute it at one input. -/
def tableStepsWrong : ChangeSpec := { name := "tableSteps", fn := fun _ => fun
  | [d] => { results := [.lit (.bool false)], args := [d] }
  | _ => none }
def TableStepsWrongFalsely : Prop := tableStepsRow.holds Tryz.pinned (OpenSpec.ofChange tableStepsWrong)

/-- 'erasurelaw07.TableFull': WHATEVER THE INPUT: true; the input reads as it did. -/
def tableFullSpec : ChangeSpec := { name := "tableFull", fn := fun _ => fun
  | [d] => { results := [.lit (.bool true)], args := [d] }
  | _ => none }
def tableFullRow : OpenClaim := { program := "ytkiglflbngfelaagreat", sum := "6ed6474dbc17439b605748a63b958f0542d3e7dddd930580e6289adad44b2ca3", func := "erasure/erasurelaw07.TableFull", spec := "tableFull", inPlace := ["internal/bytealg.abigen_runtime_cmpstring", "slices.overlaps[erasure/api.Record]"], unfollowed := true, recurses := true, plainKeys := false, apart := false }
def TableFullSaid : Prop := tableFullRow.holds Tryz.pinned (OpenSpec.ofChange tableFullSpec)

/-- ITS FALSE NEIGHBOUR: 'it returns false'. Refute it at one input. -/
def tableFullWrong : ChangeSpec := { name := "tableFull", fn := fun _ => fun
  | [d] => { results := [.lit (.bool false)], args := [d] }
  | _ => none }
def TableFullWrongFalsely : Prop := tableFullRow.holds Tryz.pinned (OpenSpec.ofChange tableFullWrong)

/-- 'erasurelaw18.RetentionEnds': WHATEVER THE INPUT: true; the input reads as it did. -/
def retentionEndsSpec : ChangeSpec := { name := "retentionEnds", fn := fun _ => fun
  | [d] => { results := [.lit (.bool true)], args := [d] }
  | _ => none }
def retentionEndsRow : OpenClaim := { program := "ytkiglflbngfelaagreat", sum := "6ed6474dbc17439b605748a63b958f0542d3e7dddd930580e6289adad44b2ca3", func := "erasure/erasurelaw18.RetentionEnds", spec := "retentionEnds", inPlace := ["internal/bytealg.abigen_runtime_cmpstring", "slices.overlaps[erasure/api.Record]"], unfollowed := true, recurses := true, plainKeys := false, apart := false }
def RetentionEndsSaid : Prop := retentionEndsRow.holds Tryz.pinned (OpenSpec.ofChange retentionEndsSpec)

/-- ITS FALSE NEIGHBOUR: 'it returns false'. Refute it at one input. -/
def retentionEndsWrong : ChangeSpec := { name := "retentionEnds", fn := fun _ => fun
  | [d] => { results := [.lit (.bool false)], args := [d] }
  | _ => none }
def RetentionEndsWrongFalsely : Prop := retentionEndsRow.holds Tryz.pinned (OpenSpec.ofChange retentionEndsWrong)

/- THE SECOND FORM. 'bulk': how many values and letters a reading holds, each counted each time it is reached (what is shared counts as often as it is met; a slice's spare places count too). A statement '..UptoSaid' is the law's where the arguments, and the package variables that the reading takes, are together of bulk at most 1048576: NARROWER than '..Said'. Prove '..Said' where nothing that the law and all that it calls make is longer than what came in: it says more and counts as full. Else prove '..UptoSaid'. A law counts once. -/
mutual
def uptoBulk {H : Type} : DataW H → Nat
  | .lit (.string bytes) => bytes.length + 1
  | .lit _ => 1
  | .nil => 1
  | .ptr d => uptoBulk d + 1
  | .slice elems spare => uptoBulkAll elems + uptoBulkAll spare + 1
  | .agg parts => uptoBulkAll parts + 1
  | .iface _ d => uptoBulk d + 1
  | .map entries => uptoBulkEntries entries + 1
  | .held _ => 1
def uptoBulkAll {H : Type} : List (DataW H) → Nat
  | [] => 0
  | d :: r => uptoBulk d + uptoBulkAll r
def uptoBulkEntries {H : Type} : List (Lit × DataW H) → Nat
  | [] => 0
  | x :: r => uptoBulkEntry x + uptoBulkEntries r
def uptoBulkEntry {H : Type} : Lit × DataW H → Nat
  | (.string bytes, d) => bytes.length + uptoBulk d + 1
  | (_, d) => uptoBulk d + 1
 end
def uptoSmall : (H : Type) → List (DataW H) → Bool := fun _ ds => decide (uptoBulkAll ds ≤ 1048576)
def OpenSpec.upto (s : _root_.Go.ChangeSpec) : _root_.Go.OpenSpec := { _root_.Go.OpenSpec.ofChange s with cond := some uptoSmall }

/-- 'erasurelaw07.TablePositions', WHERE WHAT IT READS IS OF BULK AT MOST 1048576: true; the input reads as it did. -/
def tablePositionsUptoRow : OpenClaim := { program := "ytkiglflbngfelaagreat", sum := "6ed6474dbc17439b605748a63b958f0542d3e7dddd930580e6289adad44b2ca3", func := "erasure/erasurelaw07.TablePositions", spec := "tablePositions", inPlace := ["internal/bytealg.abigen_runtime_cmpstring", "slices.overlaps[erasure/api.Record]"], unfollowed := true, recurses := true, plainKeys := false, apart := false, narrowed := true }
def TablePositionsUptoSaid : Prop := tablePositionsUptoRow.holds Tryz.pinned (OpenSpec.upto tablePositionsSpec)

/-- 'erasurelaw07.TableArbitrary', WHERE WHAT IT READS IS OF BULK AT MOST 1048576: true; the input reads as it did. -/
def tableArbitraryUptoRow : OpenClaim := { program := "ytkiglflbngfelaagreat", sum := "6ed6474dbc17439b605748a63b958f0542d3e7dddd930580e6289adad44b2ca3", func := "erasure/erasurelaw07.TableArbitrary", spec := "tableArbitrary", inPlace := ["internal/bytealg.abigen_runtime_cmpstring", "slices.overlaps[erasure/api.Record]"], unfollowed := true, recurses := true, plainKeys := false, apart := false, narrowed := true }
def TableArbitraryUptoSaid : Prop := tableArbitraryUptoRow.holds Tryz.pinned (OpenSpec.upto tableArbitrarySpec)

/-- 'erasurelaw07.TableSteps', WHERE WHAT IT READS IS OF BULK AT MOST 1048576: true; the input reads as it did. -/
def tableStepsUptoRow : OpenClaim := { program := "ytkiglflbngfelaagreat", sum := "6ed6474dbc17439b605748a63b958f0542d3e7dddd930580e6289adad44b2ca3", func := "erasure/erasurelaw07.TableSteps", spec := "tableSteps", inPlace := ["internal/bytealg.abigen_runtime_cmpstring", "slices.overlaps[erasure/api.Record]"], unfollowed := true, recurses := true, plainKeys := false, apart := false, narrowed := true }
def TableStepsUptoSaid : Prop := tableStepsUptoRow.holds Tryz.pinned (OpenSpec.upto tableStepsSpec)

/-- 'erasurelaw07.TableFull', WHERE WHAT IT READS IS OF BULK AT MOST 1048576: true; the input reads as it did. -/
def tableFullUptoRow : OpenClaim := { program := "ytkiglflbngfelaagreat", sum := "6ed6474dbc17439b605748a63b958f0542d3e7dddd930580e6289adad44b2ca3", func := "erasure/erasurelaw07.TableFull", spec := "tableFull", inPlace := ["internal/bytealg.abigen_runtime_cmpstring", "slices.overlaps[erasure/api.Record]"], unfollowed := true, recurses := true, plainKeys := false, apart := false, narrowed := true }
def TableFullUptoSaid : Prop := tableFullUptoRow.holds Tryz.pinned (OpenSpec.upto tableFullSpec)

/-- 'erasurelaw18.RetentionEnds', WHERE WHAT IT READS IS OF BULK AT MOST 1048576: true; the input reads as it did. -/
def retentionEndsUptoRow : OpenClaim := { program := "ytkiglflbngfelaagreat", sum := "6ed6474dbc17439b605748a63b958f0542d3e7dddd930580e6289adad44b2ca3", func := "erasure/erasurelaw18.RetentionEnds", spec := "retentionEnds", inPlace := ["internal/bytealg.abigen_runtime_cmpstring", "slices.overlaps[erasure/api.Record]"], unfollowed := true, recurses := true, plainKeys := false, apart := false, narrowed := true }
def RetentionEndsUptoSaid : Prop := retentionEndsUptoRow.holds Tryz.pinned (OpenSpec.upto retentionEndsSpec)

end Rows
end Go.Proofs.YtkiglflbngfelaaGreat
