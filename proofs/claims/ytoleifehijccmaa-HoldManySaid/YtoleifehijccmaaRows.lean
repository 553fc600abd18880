/-
  No cell of these rows narrows 'for every input' (looked for: loops, veiled, ifaces, maps, wideKeys, modest, calm, conditions, laid).
  DERIVED. THE GIVEN ROWS OF THIS SEAT. 8 by the template 'for every input the law returns true; each argument reads behind the call as it read before'; 0 by the template 'total and deterministic' (their statements: YtoleifehijccmaaTotals.lean).
  GIVEN WITH THE SEED: the statements are not yours to turn. If you find one false, say at which input.
  Laid BY PROGRAM, IN A SANDBOX (cutbox-rows.mjs): the forced cells as the released guide's own fill.sh prints them over the translation 8a6061ed03b2ab90… (all of the seat's roots in one cut). By AI agents, Wed Nov 11 2026. No macro, syntax, notation, axiom, sorry.
-/
import Derived.Test.YtoleifehijccmaaChecked
import GoSem.Claim
import GoSem.ClaimJoined
import GoSem.ClaimMapViews
import Derived.JoinedTies
import Derived.KernelRfl
namespace Go.Proofs.Ytoleifehijccmaa
/- THE CELL 'sum', in the pinned program and in every row, IS THE sha256 OF THE DUMP (.gsa) THAT YtoleifehijccmaaProg.lean LOADS. Nothing in Lean hashes anything: it is a label: what it is worth is what the hold of that sum in a sandbox is worth. -/
noncomputable def Try.pinned : Pinned := { name := "ytoleifehijccmaa", sum := "8a6061ed03b2ab90e99c7dbab47aafc7cb597dc0093906455c026131dffd20a2", checked := Try.checked }
namespace Rows
def none {H : Type} : Left H := { results := [], args := [] }

/-- 'erasurelaw16.IdentityMany': WHATEVER THE INPUT: true; the input reads as it did. -/
def identityManySpec : ChangeSpec := { name := "identityMany", fn := fun _ => fun
  | [d] => { results := [.lit (.bool true)], args := [d] }
  | _ => none }
def identityManyRow : OpenClaim := { program := "ytoleifehijccmaa", sum := "8a6061ed03b2ab90e99c7dbab47aafc7cb597dc0093906455c026131dffd20a2", func := "erasure/erasurelaw16.IdentityMany", spec := "identityMany", inPlace := ["internal/bytealg.abigen_runtime_cmpstring"], unfollowed := true, recurses := true, apart := false }
def IdentityManySaid : Prop := identityManyRow.holds Try.pinned (OpenSpec.ofChange identityManySpec)

/-- ITS FALSE NEIGHBOUR: 'it returns false'. Refute it at one input. -/
def identityManyWrong : ChangeSpec := { name := "identityMany", fn := fun _ => fun
  | [d] => { results := [.lit (.bool false)], args := [d] }
  | _ => none }
def IdentityManyWrongFalsely : Prop := identityManyRow.holds Try.pinned (OpenSpec.ofChange identityManyWrong)

/-- 'erasurelaw16.IdentityGrows': WHATEVER THE INPUT: true; the input reads as it did. -/
def identityGrowsSpec : ChangeSpec := { name := "identityGrows", fn := fun _ => fun
  | [d] => { results := [.lit (.bool true)], args := [d] }
  | _ => none }
def identityGrowsRow : OpenClaim := { program := "ytoleifehijccmaa", sum := "8a6061ed03b2ab90e99c7dbab47aafc7cb597dc0093906455c026131dffd20a2", func := "erasure/erasurelaw16.IdentityGrows", spec := "identityGrows", inPlace := ["internal/bytealg.abigen_runtime_cmpstring"], unfollowed := true, recurses := true, apart := false }
def IdentityGrowsSaid : Prop := identityGrowsRow.holds Try.pinned (OpenSpec.ofChange identityGrowsSpec)

/-- ITS FALSE NEIGHBOUR: 'it returns false'. Refute it at one input. -/
def identityGrowsWrong : ChangeSpec := { name := "identityGrows", fn := fun _ => fun
  | [d] => { results := [.lit (.bool false)], args := [d] }
  | _ => none }
def IdentityGrowsWrongFalsely : Prop := identityGrowsRow.holds Try.pinned (OpenSpec.ofChange identityGrowsWrong)

/-- 'erasurelaw16.IdentityPlain': WHATEVER THE INPUT: true; the input reads as it did. -/
def identityPlainSpec : ChangeSpec := { name := "identityPlain", fn := fun _ => fun
  | [d] => { results := [.lit (.bool true)], args := [d] }
  | _ => none }
def identityPlainRow : OpenClaim := { program := "ytoleifehijccmaa", sum := "8a6061ed03b2ab90e99c7dbab47aafc7cb597dc0093906455c026131dffd20a2", func := "erasure/erasurelaw16.IdentityPlain", spec := "identityPlain", inPlace := ["internal/bytealg.abigen_runtime_cmpstring"], unfollowed := true, recurses := true, apart := false }
def IdentityPlainSaid : Prop := identityPlainRow.holds Try.pinned (OpenSpec.ofChange identityPlainSpec)

/-- ITS FALSE NEIGHBOUR: 'it returns false'. Refute it at one input. -/
def identityPlainWrong : ChangeSpec := { name := "identityPlain", fn := fun _ => fun
  | [d] => { results := [.lit (.bool false)], args := [d] }
  | _ => none }
def IdentityPlainWrongFalsely : Prop := identityPlainRow.holds Try.pinned (OpenSpec.ofChange identityPlainWrong)

/-- 'erasurelaw16.IdentityLooks': WHATEVER THE INPUT: true; the input reads as it did. -/
def identityLooksSpec : ChangeSpec := { name := "identityLooks", fn := fun _ => fun
  | [d1, d2] => { results := [.lit (.bool true)], args := [d1, d2] }
  | _ => none }
def identityLooksRow : OpenClaim := { program := "ytoleifehijccmaa", sum := "8a6061ed03b2ab90e99c7dbab47aafc7cb597dc0093906455c026131dffd20a2", func := "erasure/erasurelaw16.IdentityLooks", spec := "identityLooks", inPlace := ["internal/bytealg.abigen_runtime_cmpstring"], unfollowed := true, recurses := true, apart := false }
def IdentityLooksSaid : Prop := identityLooksRow.holds Try.pinned (OpenSpec.ofChange identityLooksSpec)

/-- ITS FALSE NEIGHBOUR: 'it returns false'. Refute it at one input. -/
def identityLooksWrong : ChangeSpec := { name := "identityLooks", fn := fun _ => fun
  | [d1, d2] => { results := [.lit (.bool false)], args := [d1, d2] }
  | _ => none }
def IdentityLooksWrongFalsely : Prop := identityLooksRow.holds Try.pinned (OpenSpec.ofChange identityLooksWrong)

/-- 'erasurelaw16.IdentityRaw': WHATEVER THE INPUT: true; the input reads as it did. -/
def identityRawSpec : ChangeSpec := { name := "identityRaw", fn := fun _ => fun
  | [d1, d2, d3] => { results := [.lit (.bool true)], args := [d1, d2, d3] }
  | _ => none }
def identityRawRow : OpenClaim := { program := "ytoleifehijccmaa", sum := "8a6061ed03b2ab90e99c7dbab47aafc7cb597dc0093906455c026131dffd20a2", func := "erasure/erasurelaw16.IdentityRaw", spec := "identityRaw", inPlace := ["internal/bytealg.abigen_runtime_cmpstring"], unfollowed := true, recurses := true, apart := false }
def IdentityRawSaid : Prop := identityRawRow.holds Try.pinned (OpenSpec.ofChange identityRawSpec)

/-- ITS FALSE NEIGHBOUR: 'it returns false'. Refute it at one input. -/
def identityRawWrong : ChangeSpec := { name := "identityRaw", fn := fun _ => fun
  | [d1, d2, d3] => { results := [.lit (.bool false)], args := [d1, d2, d3] }
  | _ => none }
def IdentityRawWrongFalsely : Prop := identityRawRow.holds Try.pinned (OpenSpec.ofChange identityRawWrong)

/-- 'erasurelaw16.IdentityEquivalence': WHATEVER THE INPUT: true; the input reads as it did. -/
def identityEquivalenceSpec : ChangeSpec := { name := "identityEquivalence", fn := fun _ => fun
  | [d] => { results := [.lit (.bool true)], args := [d] }
  | _ => none }
def identityEquivalenceRow : OpenClaim := { program := "ytoleifehijccmaa", sum := "8a6061ed03b2ab90e99c7dbab47aafc7cb597dc0093906455c026131dffd20a2", func := "erasure/erasurelaw16.IdentityEquivalence", spec := "identityEquivalence", inPlace := ["internal/bytealg.abigen_runtime_cmpstring"], unfollowed := true, recurses := true, apart := false }
def IdentityEquivalenceSaid : Prop := identityEquivalenceRow.holds Try.pinned (OpenSpec.ofChange identityEquivalenceSpec)

/-- ITS FALSE NEIGHBOUR: 'it returns false'. Refute it at one input. -/
def identityEquivalenceWrong : ChangeSpec := { name := "identityEquivalence", fn := fun _ => fun
  | [d] => { results := [.lit (.bool false)], args := [d] }
  | _ => none }
def IdentityEquivalenceWrongFalsely : Prop := identityEquivalenceRow.holds Try.pinned (OpenSpec.ofChange identityEquivalenceWrong)

/-- 'erasurelaw16.IdentityRevoked': WHATEVER THE INPUT: true; the input reads as it did. -/
def identityRevokedSpec : ChangeSpec := { name := "identityRevoked", fn := fun _ => fun
  | [d] => { results := [.lit (.bool true)], args := [d] }
  | _ => none }
def identityRevokedRow : OpenClaim := { program := "ytoleifehijccmaa", sum := "8a6061ed03b2ab90e99c7dbab47aafc7cb597dc0093906455c026131dffd20a2", func := "erasure/erasurelaw16.IdentityRevoked", spec := "identityRevoked", inPlace := ["internal/bytealg.abigen_runtime_cmpstring"], unfollowed := true, recurses := true, apart := false }
def IdentityRevokedSaid : Prop := identityRevokedRow.holds Try.pinned (OpenSpec.ofChange identityRevokedSpec)

/-- ITS FALSE NEIGHBOUR: 'it returns false'. Refute it at one input. -/
def identityRevokedWrong : ChangeSpec := { name := "identityRevoked", fn := fun _ => fun
  | [d] => { results := [.lit (.bool false)], args := [d] }
  | _ => none }
def IdentityRevokedWrongFalsely : Prop := identityRevokedRow.holds Try.pinned (OpenSpec.ofChange identityRevokedWrong)

/-- 'erasurelaw19.HoldMany': WHATEVER THE INPUT: true; the input reads as it did. -/
def holdManySpec : ChangeSpec := { name := "holdMany", fn := fun _ => fun
  | [d] => { results := [.lit (.bool true)], args := [d] }
  | _ => none }
def holdManyRow : OpenClaim := { program := "ytoleifehijccmaa", sum := "8a6061ed03b2ab90e99c7dbab47aafc7cb597dc0093906455c026131dffd20a2", func := "erasure/erasurelaw19.HoldMany", spec := "holdMany", inPlace := ["internal/bytealg.abigen_runtime_cmpstring"], unfollowed := true, recurses := true, apart := false }
def HoldManySaid : Prop := holdManyRow.holds Try.pinned (OpenSpec.ofChange holdManySpec)

/-- ITS FALSE NEIGHBOUR: 'it returns false'. Refute it at one input. -/
def holdManyWrong : ChangeSpec := { name := "holdMany", fn := fun _ => fun
  | [d] => { results := [.lit (.bool false)], args := [d] }
  | _ => none }
def HoldManyWrongFalsely : Prop := holdManyRow.holds Try.pinned (OpenSpec.ofChange holdManyWrong)

/- THE SECOND FORM. 'bulk': how many values and letters a reading holds, each counted each time it is reached (what is shared counts as often as it is met; a slice's spare places count too). A statement '..UptoSaid' is the law's where the arguments, and the package variables that the reading takes, are together of bulk at most 1048576: NARROWER than '..Said'. Prove '..Said' where nothing that the law and all that it calls make is longer than what came in: it says more and counts as full. Else prove '..UptoSaid'. A law counts once. -/
mutual
def uptoBulk {H : Type} : DataW H → Nat
  | .lit (.string bytes) => bytes.length + 1
  | .lit _ => 1
  | .nil => 1
  | .ptr d => uptoBulk d + 1
  | .slice elems spare => uptoBulkAll elems + uptoBulkAll spare + 1
  | .agg parts => uptoBulkAll parts + 1
  | .iface _ d => uptoBulk d + 1
  | .map entries => uptoBulkEntries entries + 1
  | .held _ => 1
def uptoBulkAll {H : Type} : List (DataW H) → Nat
  | [] => 0
  | d :: r => uptoBulk d + uptoBulkAll r
def uptoBulkEntries {H : Type} : List (Lit × DataW H) → Nat
  | [] => 0
  | x :: r => uptoBulkEntry x + uptoBulkEntries r
def uptoBulkEntry {H : Type} : Lit × DataW H → Nat
  | (.string bytes, d) => bytes.length + uptoBulk d + 1
  | (_, d) => uptoBulk d + 1
 end
def uptoSmall : (H : Type) → List (DataW H) → Bool := fun _ ds => decide (uptoBulkAll ds ≤ 1048576)
def OpenSpec.upto (s : _root_.Go.ChangeSpec) : _root_.Go.OpenSpec := { _root_.Go.OpenSpec.ofChange s with cond := some uptoSmall }

/-- 'erasurelaw16.IdentityMany', WHERE WHAT IT READS IS OF BULK AT MOST 1048576: true; the input reads as it did. -/
def identityManyUptoRow : OpenClaim := { program := "ytoleifehijccmaa", sum := "8a6061ed03b2ab90e99c7dbab47aafc7cb597dc0093906455c026131dffd20a2", func := "erasure/erasurelaw16.IdentityMany", spec := "identityMany", inPlace := ["internal/bytealg.abigen_runtime_cmpstring"], unfollowed := true, recurses := true, apart := false, narrowed := true }
def IdentityManyUptoSaid : Prop := identityManyUptoRow.holds Try.pinned (OpenSpec.upto identityManySpec)

/-- 'erasurelaw16.IdentityGrows', WHERE WHAT IT READS IS OF BULK AT MOST 1048576: true; the input reads as it did. -/
def identityGrowsUptoRow : OpenClaim := { program := "ytoleifehijccmaa", sum := "8a6061ed03b2ab90e99c7dbab47aafc7cb597dc0093906455c026131dffd20a2", func := "erasure/erasurelaw16.IdentityGrows", spec := "identityGrows", inPlace := ["internal/bytealg.abigen_runtime_cmpstring"], unfollowed := true, recurses := true, apart := false, narrowed := true }
def IdentityGrowsUptoSaid : Prop := identityGrowsUptoRow.holds Try.pinned (OpenSpec.upto identityGrowsSpec)

/-- 'erasurelaw16.IdentityPlain', WHERE WHAT IT READS IS OF BULK AT MOST 1048576: true; the input reads as it did. -/
def identityPlainUptoRow : OpenClaim := { program := "ytoleifehijccmaa", sum := "8a6061ed03b2ab90e99c7dbab47aafc7cb597dc0093906455c026131dffd20a2", func := "erasure/erasurelaw16.IdentityPlain", spec := "identityPlain", inPlace := ["internal/bytealg.abigen_runtime_cmpstring"], unfollowed := true, recurses := true, apart := false, narrowed := true }
def IdentityPlainUptoSaid : Prop := identityPlainUptoRow.holds Try.pinned (OpenSpec.upto identityPlainSpec)

/-- 'erasurelaw16.IdentityLooks', WHERE WHAT IT READS IS OF BULK AT MOST 1048576: true; the input reads as it did. -/
def identityLooksUptoRow : OpenClaim := { program := "ytoleifehijccmaa", sum := "8a6061ed03b2ab90e99c7dbab47aafc7cb597dc0093906455c026131dffd20a2", func := "erasure/erasurelaw16.IdentityLooks", spec := "identityLooks", inPlace := ["internal/bytealg.abigen_runtime_cmpstring"], unfollowed := true, recurses := true, apart := false, narrowed := true }
def IdentityLooksUptoSaid : Prop := identityLooksUptoRow.holds Try.pinned (OpenSpec.upto identityLooksSpec)

/-- 'erasurelaw16.IdentityRaw', WHERE WHAT IT READS IS OF BULK AT MOST 1048576: true; the input reads as it did. -/
def identityRawUptoRow : OpenClaim := { program := "ytoleifehijccmaa", sum := "8a6061ed03b2ab90e99c7dbab47aafc7cb597dc0093906455c026131dffd20a2", func := "erasure/erasurelaw16.IdentityRaw", spec := "identityRaw", inPlace := ["internal/bytealg.abigen_runtime_cmpstring"], unfollowed := true, recurses := true, apart := false, narrowed := true }
def IdentityRawUptoSaid : Prop := identityRawUptoRow.holds Try.pinned (OpenSpec.upto identityRawSpec)

/-- 'erasurelaw16.IdentityEquivalence', WHERE WHAT IT READS IS OF BULK AT MOST 1048576: true; the input reads as it did. -/
def identityEquivalenceUptoRow : OpenClaim := { program := "ytoleifehijccmaa", sum := "8a6061ed03b2ab90e99c7dbab47aafc7cb597dc0093906455c026131dffd20a2", func := "erasure/erasurelaw16.IdentityEquivalence", spec := "identityEquivalence", inPlace := ["internal/bytealg.abigen_runtime_cmpstring"], unfollowed := true, recurses := true, apart := false, narrowed := true }
def IdentityEquivalenceUptoSaid : Prop := identityEquivalenceUptoRow.holds Try.pinned (OpenSpec.upto identityEquivalenceSpec)

/-- 'erasurelaw16.IdentityRevoked', WHERE WHAT IT READS IS OF BULK AT MOST 1048576: true; the input reads as it did. -/
def identityRevokedUptoRow : OpenClaim := { program := "ytoleifehijccmaa", sum := "8a6061ed03b2ab90e99c7dbab47aafc7cb597dc0093906455c026131dffd20a2", func := "erasure/erasurelaw16.IdentityRevoked", spec := "identityRevoked", inPlace := ["internal/bytealg.abigen_runtime_cmpstring"], unfollowed := true, recurses := true, apart := false, narrowed := true }
def IdentityRevokedUptoSaid : Prop := identityRevokedUptoRow.holds Try.pinned (OpenSpec.upto identityRevokedSpec)

/-- 'erasurelaw19.HoldMany', WHERE WHAT IT READS IS OF BULK AT MOST 1048576: true; the input reads as it did. -/
def holdManyUptoRow : OpenClaim := { program := "ytoleifehijccmaa", sum := "8a6061ed03b2ab90e99c7dbab47aafc7cb597dc0093906455c026131dffd20a2", func := "erasure/erasurelaw19.HoldMany", spec := "holdMany", inPlace := ["internal/bytealg.abigen_runtime_cmpstring"], unfollowed := true, recurses := true, apart := false, narrowed := true }
def HoldManyUptoSaid : Prop := holdManyUptoRow.holds Try.pinned (OpenSpec.upto holdManySpec)

end Rows
end Go.Proofs.Ytoleifehijccmaa
