/-
  No cell of these rows narrows 'for every input' (looked for: loops, veiled, ifaces, maps, wideKeys, modest, calm, conditions, laid).
  DERIVED. THE GIVEN ROWS OF THIS SEAT. 5 by the template 'for every input the law returns true; each argument reads behind the call as it read before'; 0 by the template 'total and deterministic' (their statements: YtebippoohpnjkaaGreatTotals.lean).
  GIVEN WITH THE SEED: the statements are not yours to turn. If you find one false, say at which input.
  Laid BY PROGRAM, IN A SANDBOX (cutbox-rows.mjs): the forced cells as the released guide's own fill.sh prints them over the translation 0e52ce0908ff64f3… (all of the seat's roots in one cut). By AI agents, Wed Nov 11 2026. No macro, syntax, notation, axiom, sorry.
-/
import Derived.Test.YtebippoohpnjkaaGreatChecked
import GoSem.Claim
import GoSem.ClaimJoined
import GoSem.ClaimMapViews
import Derived.JoinedTies
import Derived.KernelRfl
namespace Go.Proofs.YtebippoohpnjkaaGreat
/- THE CELL 'sum', in the pinned program and in every row, IS THE sha256 OF THE DUMP (.gsa) THAT YtebippoohpnjkaaGreatProg.lean LOADS. Nothing in Lean hashes anything: it is a label: what it is worth is what the hold of that sum in a sandbox is worth. -/
noncomputable def Tryz.pinned : Pinned := { name := "ytebippoohpnjkaagreat", sum := "0e52ce0908ff64f37eb531aa6d218d299d3cd7a4d7419f2b76822158a6f106fa", checked := Tryz.checked }
namespace Rows
def none {H : Type} : Left H := { results := [], args := [] }

/-- 'erasurelaw18.RetentionUntil': WHATEVER THE INPUT: true; the input reads as it did. -/
def retentionUntilSpec : ChangeSpec := { name := "retentionUntil", fn := fun _ => fun
  | [d1, d2, d3] => { results := [.lit (.bool true)], args := [d1, d2, d3] }
  | _ => none }
def retentionUntilRow : OpenClaim := { program := "ytebippoohpnjkaagreat", sum := "0e52ce0908ff64f37eb531aa6d218d299d3cd7a4d7419f2b76822158a6f106fa", func := "erasure/erasurelaw18.RetentionUntil", spec := "retentionUntil", inPlace := ["internal/bytealg.abigen_runtime_cmpstring"], unfollowed := true, recurses := true, plainKeys := false, apart := false }
def RetentionUntilSaid : Prop := retentionUntilRow.holds Tryz.pinned (OpenSpec.ofChange retentionUntilSpec)

/-- ITS FALSE NEIGHBOUR: 'it returns false'. Refute it at one input. -/
def retentionUntilWrong : ChangeSpec := { name := "retentionUntil", fn := fun _ => fun
  | [d1, d2, d3] => { results := [.lit (.bool false)], args := [d1, d2, d3] }
  | _ => none }
def RetentionUntilWrongFalsely : Prop := retentionUntilRow.holds Tryz.pinned (OpenSpec.ofChange retentionUntilWrong)

/-- 'erasurelaw18.RetentionExpired': WHATEVER THE INPUT: true; the input reads as it did. -/
def retentionExpiredSpec : ChangeSpec := { name := "retentionExpired", fn := fun _ => fun
  | [d1, d2] => { results := [.lit (.bool true)], args := [d1, d2] }
  | _ => none }
def retentionExpiredRow : OpenClaim := { program := "ytebippoohpnjkaagreat", sum := "0e52ce0908ff64f37eb531aa6d218d299d3cd7a4d7419f2b76822158a6f106fa", func := "erasure/erasurelaw18.RetentionExpired", spec := "retentionExpired", inPlace := ["internal/bytealg.abigen_runtime_cmpstring"], unfollowed := true, recurses := true, plainKeys := false, apart := false }
def RetentionExpiredSaid : Prop := retentionExpiredRow.holds Tryz.pinned (OpenSpec.ofChange retentionExpiredSpec)

/-- ITS FALSE NEIGHBOUR: 'it returns false'. Refute it at one input. -/
def retentionExpiredWrong : ChangeSpec := { name := "retentionExpired", fn := fun _ => fun
  | [d1, d2] => { results := [.lit (.bool false)], args := [d1, d2] }
  | _ => none }
def RetentionExpiredWrongFalsely : Prop := retentionExpiredRow.holds Tryz.pinned (OpenSpec.ofChange retentionExpiredWrong)

/-- 'erasurelaw07.TableReplay': WHATEVER THE INPUT: true; the input reads as it did. -/
def tableReplaySpec : ChangeSpec := { name := "tableReplay", fn := fun _ => fun
  | [d] => { results := [.lit (.bool true)], args := [d] }
  | _ => none }
def tableReplayRow : OpenClaim := { program := "ytebippoohpnjkaagreat", sum := "0e52ce0908ff64f37eb531aa6d218d299d3cd7a4d7419f2b76822158a6f106fa", func := "erasure/erasurelaw07.TableReplay", spec := "tableReplay", inPlace := ["internal/bytealg.abigen_runtime_cmpstring", "slices.overlaps[erasure/api.Record]"], unfollowed := true, recurses := true, plainKeys := false, apart := false }
def TableReplaySaid : Prop := tableReplayRow.holds Tryz.pinned (OpenSpec.ofChange tableReplaySpec)

/-- ITS FALSE NEIGHBOUR: 'it returns false'. Refute it at one input. -/
def tableReplayWrong : ChangeSpec := { name := "tableReplay", fn := fun _ => fun
  | [d] => { results := [.lit (.bool false)], args := [d] }
  | _ => none }
def TableReplayWrongFalsely : Prop := tableReplayRow.holds Tryz.pinned (OpenSpec.ofChange tableReplayWrong)

/-- 'erasurelaw07.TableApply': WHATEVER THE INPUT: true; the input reads as it did. -/
def tableApplySpec : ChangeSpec := { name := "tableApply", fn := fun _ => fun
  | [d] => { results := [.lit (.bool true)], args := [d] }
  | _ => none }
def tableApplyRow : OpenClaim := { program := "ytebippoohpnjkaagreat", sum := "0e52ce0908ff64f37eb531aa6d218d299d3cd7a4d7419f2b76822158a6f106fa", func := "erasure/erasurelaw07.TableApply", spec := "tableApply", inPlace := ["internal/bytealg.abigen_runtime_cmpstring", "slices.overlaps[erasure/api.Record]"], unfollowed := true, recurses := true, plainKeys := false, apart := false }
def TableApplySaid : Prop := tableApplyRow.holds Tryz.pinned (OpenSpec.ofChange tableApplySpec)

/-- ITS FALSE NEIGHBOUR: 'it returns false'. Refute it at one input. -/
def tableApplyWrong : ChangeSpec := { name := "tableApply", fn := fun _ => fun
  | [d] => { results := [.lit (.bool false)], args := [d] }
  | _ => none }
def TableApplyWrongFalsely : Prop := tableApplyRow.holds Tryz.pinned (OpenSpec.ofChange tableApplyWrong)

/-- 'erasurelaw07.TableHistory': WHATEVER THE INPUT: true; the input reads as it did. -/
def tableHistorySpec : ChangeSpec := { name := "tableHistory", fn := fun _ => fun
  | [d] => { results := [.lit (.bool true)], args := [d] }
  | _ => none }
def tableHistoryRow : OpenClaim := { program := "ytebippoohpnjkaagreat", sum := "0e52ce0908ff64f37eb531aa6d218d299d3cd7a4d7419f2b76822158a6f106fa", func := "erasure/erasurelaw07.TableHistory", spec := "tableHistory", inPlace := ["internal/bytealg.abigen_runtime_cmpstring", "slices.overlaps[erasure/api.Record]"], unfollowed := true, recurses := true, plainKeys := false, apart := false }
def TableHistorySaid : Prop := tableHistoryRow.holds Tryz.pinned (OpenSpec.ofChange tableHistorySpec)

/-- ITS FALSE NEIGHBOUR: 'it returns false'. Refute it at one input. -/
def tableHistoryWrong : ChangeSpec := { name := "tableHistory", fn := fun _ => fun
  | [d] => { results := [.lit (.bool false)], args := [d] }
  | _ => none }
def TableHistoryWrongFalsely : Prop := tableHistoryRow.holds Tryz.pinned (OpenSpec.ofChange tableHistoryWrong)

/- THE SECOND FORM. 'bulk': how many values and letters a reading holds, each counted each time it is reached (what is shared counts as often as it is met; a slice's spare places count too). A statement '..UptoSaid' is the law's where the arguments, and the package variables that the reading takes, are together of bulk at most 1048576: NARROWER than '..Said'. Prove '..Said' where nothing that the law and all that it calls make is longer than what came in: it says more and counts as full. Else prove '..UptoSaid'. A law counts once. -/
mutual
def uptoBulk {H : Type} : DataW H → Nat
  | .lit (.string bytes) => bytes.length + 1
  | .lit _ => 1
  | .nil => 1
  | .ptr d => uptoBulk d + 1
  | .slice elems spare => uptoBulkAll elems + uptoBulkAll spare + 1
  | .agg parts => uptoBulkAll parts + 1
  | .iface _ d => uptoBulk d + 1
  | .map entries => uptoBulkEntries entries + 1
  | .held _ => 1
def uptoBulkAll {H : Type} : List (DataW H) → Nat
  | [] => 0
  | d :: r => uptoBulk d + uptoBulkAll r
def uptoBulkEntries {H : Type} : List (Lit × DataW H) → Nat
  | [] => 0
  | x :: r => uptoBulkEntry x + uptoBulkEntries r
def uptoBulkEntry {H : Type} : Lit × DataW H → Nat
  | (.string bytes, d) => bytes.length + uptoBulk d + 1
  | (_, d) => uptoBulk d + 1
 end
def uptoSmall : (H : Type) → List (DataW H) → Bool := fun _ ds => decide (uptoBulkAll ds ≤ 1048576)
def OpenSpec.upto (s : _root_.Go.ChangeSpec) : _root_.Go.OpenSpec := { _root_.Go.OpenSpec.ofChange s with cond := some uptoSmall }

/-- 'erasurelaw18.RetentionUntil', WHERE WHAT IT READS IS OF BULK AT MOST 1048576: true; the input reads as it did. -/
def retentionUntilUptoRow : OpenClaim := { program := "ytebippoohpnjkaagreat", sum := "0e52ce0908ff64f37eb531aa6d218d299d3cd7a4d7419f2b76822158a6f106fa", func := "erasure/erasurelaw18.RetentionUntil", spec := "retentionUntil", inPlace := ["internal/bytealg.abigen_runtime_cmpstring"], unfollowed := true, recurses := true, plainKeys := false, apart := false, narrowed := true }
def RetentionUntilUptoSaid : Prop := retentionUntilUptoRow.holds Tryz.pinned (OpenSpec.upto retentionUntilSpec)

/-- 'erasurelaw18.RetentionExpired', WHERE WHAT IT READS IS OF BULK AT MOST 1048576: true; the input reads as it did. -/
def retentionExpiredUptoRow : OpenClaim := { program := "ytebippoohpnjkaagreat", sum := "0e52ce0908ff64f37eb531aa6d218d299d3cd7a4d7419f2b76822158a6f106fa", func := "erasure/erasurelaw18.RetentionExpired", spec := "retentionExpired", inPlace := ["internal/bytealg.abigen_runtime_cmpstring"], unfollowed := true, recurses := true, plainKeys := false, apart := false, narrowed := true }
def RetentionExpiredUptoSaid : Prop := retentionExpiredUptoRow.holds Tryz.pinned (OpenSpec.upto retentionExpiredSpec)

/-- 'erasurelaw07.TableReplay', WHERE WHAT IT READS IS OF BULK AT MOST 1048576: true; the input reads as it did. -/
def tableReplayUptoRow : OpenClaim := { program := "ytebippoohpnjkaagreat", sum := "0e52ce0908ff64f37eb531aa6d218d299d3cd7a4d7419f2b76822158a6f106fa", func := "erasure/erasurelaw07.TableReplay", spec := "tableReplay", inPlace := ["internal/bytealg.abigen_runtime_cmpstring", "slices.overlaps[erasure/api.Record]"], unfollowed := true, recurses := true, plainKeys := false, apart := false, narrowed := true }
def TableReplayUptoSaid : Prop := tableReplayUptoRow.holds Tryz.pinned (OpenSpec.upto tableReplaySpec)

/-- 'erasurelaw07.TableApply', WHERE WHAT IT READS IS OF BULK AT MOST 1048576: true; the input reads as it did. -/
def tableApplyUptoRow : OpenClaim := { program := "ytebippoohpnjkaagreat", sum := "0e52ce0908ff64f37eb531aa6d218d299d3cd7a4d7419f2b76822158a6f106fa", func := "erasure/erasurelaw07.TableApply", spec := "tableApply", inPlace := ["internal/bytealg.abigen_runtime_cmpstring", "slices.overlaps[erasure/api.Record]"], unfollowed := true, recurses := true, plainKeys := false, apart := false, narrowed := true }
def TableApplyUptoSaid : Prop := tableApplyUptoRow.holds Tryz.pinned (OpenSpec.upto tableApplySpec)

/-- 'erasurelaw07.TableHistory', WHERE WHAT IT READS IS OF BULK AT MOST 1048576: true; the input reads as it did. -/
def tableHistoryUptoRow : OpenClaim := { program := "ytebippoohpnjkaagreat", sum := "0e52ce0908ff64f37eb531aa6d218d299d3cd7a4d7419f2b76822158a6f106fa", func := "erasure/erasurelaw07.TableHistory", spec := "tableHistory", inPlace := ["internal/bytealg.abigen_runtime_cmpstring", "slices.overlaps[erasure/api.Record]"], unfollowed := true, recurses := true, plainKeys := false, apart := false, narrowed := true }
def TableHistoryUptoSaid : Prop := tableHistoryUptoRow.holds Tryz.pinned (OpenSpec.upto tableHistorySpec)

end Rows
end Go.Proofs.YtebippoohpnjkaaGreat
