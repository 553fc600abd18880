/-
  No cell of these rows narrows 'for every input' (looked for: loops, veiled, ifaces, maps, wideKeys, modest, calm, conditions, laid).
  DERIVED. THE GIVEN ROWS OF THIS SEAT. 5 by the template 'for every input the law returns true; each argument reads behind the call as it read before'; 0 by the template 'total and deterministic' (their statements: YtlpgmdhnjckplaaGreatTotals.lean).
  GIVEN WITH THE SEED: the statements are not yours to turn. If you find one false, say at which input.
  Laid BY PROGRAM, IN A SANDBOX (cutbox-rows.mjs): the forced cells as the released guide's own fill.sh prints them over the translation a3a0e71f4a2c03cd… (all of the seat's roots in one cut). By AI agents, Wed Nov 11 2026. No macro, syntax, notation, axiom, sorry.
-/
import Derived.Test.YtlpgmdhnjckplaaGreatChecked
import GoSem.Claim
import GoSem.ClaimJoined
import GoSem.ClaimMapViews
import Derived.JoinedTies
import Derived.KernelRfl
namespace Go.Proofs.YtlpgmdhnjckplaaGreat
/- THE CELL 'sum', in the pinned program and in every row, IS THE sha256 OF THE DUMP (.gsa) THAT YtlpgmdhnjckplaaGreatProg.lean LOADS. Nothing in Lean hashes anything: it is a label: what it is worth is what the hold of that sum in a sandbox is worth. -/
noncomputable def Tryz.pinned : Pinned := { name := "ytlpgmdhnjckplaagreat", sum := "a3a0e71f4a2c03cda0ebff5d294d5acc0ecb5defab01064622bb7c1e7b9195c8", checked := Tryz.checked }
namespace Rows
def none {H : Type} : Left H := { results := [], args := [] }

/-- 'erasurelaw19.HoldLooks': WHATEVER THE INPUT: true; the input reads as it did. -/
def holdLooksSpec : ChangeSpec := { name := "holdLooks", fn := fun _ => fun
  | [d1, d2] => { results := [.lit (.bool true)], args := [d1, d2] }
  | _ => none }
def holdLooksRow : OpenClaim := { program := "ytlpgmdhnjckplaagreat", sum := "a3a0e71f4a2c03cda0ebff5d294d5acc0ecb5defab01064622bb7c1e7b9195c8", func := "erasure/erasurelaw19.HoldLooks", spec := "holdLooks", inPlace := ["internal/bytealg.abigen_runtime_cmpstring"], unfollowed := true, recurses := true, plainKeys := false, apart := false }
def HoldLooksSaid : Prop := holdLooksRow.holds Tryz.pinned (OpenSpec.ofChange holdLooksSpec)

/-- ITS FALSE NEIGHBOUR: 'it returns false'. Refute it at one input. -/
def holdLooksWrong : ChangeSpec := { name := "holdLooks", fn := fun _ => fun
  | [d1, d2] => { results := [.lit (.bool false)], args := [d1, d2] }
  | _ => none }
def HoldLooksWrongFalsely : Prop := holdLooksRow.holds Tryz.pinned (OpenSpec.ofChange holdLooksWrong)

/-- 'erasurelaw18.RetentionUntil': WHATEVER THE INPUT: true; the input reads as it did. -/
def retentionUntilSpec : ChangeSpec := { name := "retentionUntil", fn := fun _ => fun
  | [d1, d2, d3] => { results := [.lit (.bool true)], args := [d1, d2, d3] }
  | _ => none }
def retentionUntilRow : OpenClaim := { program := "ytlpgmdhnjckplaagreat", sum := "a3a0e71f4a2c03cda0ebff5d294d5acc0ecb5defab01064622bb7c1e7b9195c8", func := "erasure/erasurelaw18.RetentionUntil", spec := "retentionUntil", inPlace := ["internal/bytealg.abigen_runtime_cmpstring"], unfollowed := true, recurses := true, plainKeys := false, apart := false }
def RetentionUntilSaid : Prop := retentionUntilRow.holds Tryz.pinned (OpenSpec.ofChange retentionUntilSpec)

/-- ITS FALSE NEIGHBOUR: 'it returns false'. Refute it at one input. -/
def retentionUntilWrong : ChangeSpec := { name := "retentionUntil", fn := fun _ => fun
  | [d1, d2, d3] => { results := [.lit (.bool false)], args := [d1, d2, d3] }
  | _ => none }
def RetentionUntilWrongFalsely : Prop := retentionUntilRow.holds Tryz.pinned (OpenSpec.ofChange retentionUntilWrong)

/-- 'erasurelaw18.RetentionExpired': WHATEVER THE INPUT: true; the input reads as it did. -/
def retentionExpiredSpec : ChangeSpec := { name := "retentionExpired", fn := fun _ => fun
  | [d1, d2] => { results := [.lit (.bool true)], args := [d1, d2] }
  | _ => none }
def retentionExpiredRow : OpenClaim := { program := "ytlpgmdhnjckplaagreat", sum := "a3a0e71f4a2c03cda0ebff5d294d5acc0ecb5defab01064622bb7c1e7b9195c8", func := "erasure/erasurelaw18.RetentionExpired", spec := "retentionExpired", inPlace := ["internal/bytealg.abigen_runtime_cmpstring"], unfollowed := true, recurses := true, plainKeys := false, apart := false }
def RetentionExpiredSaid : Prop := retentionExpiredRow.holds Tryz.pinned (OpenSpec.ofChange retentionExpiredSpec)

/-- ITS FALSE NEIGHBOUR: 'it returns false'. Refute it at one input. -/
def retentionExpiredWrong : ChangeSpec := { name := "retentionExpired", fn := fun _ => fun
  | [d1, d2] => { results := [.lit (.bool false)], args := [d1, d2] }
  | _ => none }
def RetentionExpiredWrongFalsely : Prop := retentionExpiredRow.holds Tryz.pinned (OpenSpec.ofChange retentionExpiredWrong)

/-- 'erasurelaw18.RetentionLasts': WHATEVER THE INPUT: true; the input reads as it did. -/
def retentionLastsSpec : ChangeSpec := { name := "retentionLasts", fn := fun _ => fun
  | [d] => { results := [.lit (.bool true)], args := [d] }
  | _ => none }
def retentionLastsRow : OpenClaim := { program := "ytlpgmdhnjckplaagreat", sum := "a3a0e71f4a2c03cda0ebff5d294d5acc0ecb5defab01064622bb7c1e7b9195c8", func := "erasure/erasurelaw18.RetentionLasts", spec := "retentionLasts", inPlace := ["internal/bytealg.abigen_runtime_cmpstring"], unfollowed := true, recurses := true, plainKeys := false, apart := false }
def RetentionLastsSaid : Prop := retentionLastsRow.holds Tryz.pinned (OpenSpec.ofChange retentionLastsSpec)

/-- ITS FALSE NEIGHBOUR: 'it returns false'. Refute it at one input. -/
def retentionLastsWrong : ChangeSpec := { name := "retentionLasts", fn := fun _ => fun
  | [d] => { results := [.lit (.bool false)], args := [d] }
  | _ => none }
def RetentionLastsWrongFalsely : Prop := retentionLastsRow.holds Tryz.pinned (OpenSpec.ofChange retentionLastsWrong)

/-- 'erasurelaw18.RetentionDeletions': WHATEVER THE INPUT: true; the input reads as it did. -/
def retentionDeletionsSpec : ChangeSpec := { name := "retentionDeletions", fn := fun _ => fun
  | [d1, d2, d3] => { results := [.lit (.bool true)], args := [d1, d2, d3] }
  | _ => none }
def retentionDeletionsRow : OpenClaim := { program := "ytlpgmdhnjckplaagreat", sum := "a3a0e71f4a2c03cda0ebff5d294d5acc0ecb5defab01064622bb7c1e7b9195c8", func := "erasure/erasurelaw18.RetentionDeletions", spec := "retentionDeletions", inPlace := ["internal/bytealg.abigen_runtime_cmpstring"], unfollowed := true, recurses := true, plainKeys := false, apart := false }
def RetentionDeletionsSaid : Prop := retentionDeletionsRow.holds Tryz.pinned (OpenSpec.ofChange retentionDeletionsSpec)

/-- ITS FALSE NEIGHBOUR: 'it returns false'. Refute it at one input. -/
def retentionDeletionsWrong : ChangeSpec := { name := "retentionDeletions", fn := fun _ => fun
  | [d1, d2, d3] => { results := [.lit (.bool false)], args := [d1, d2, d3] }
  | _ => none }
def RetentionDeletionsWrongFalsely : Prop := retentionDeletionsRow.holds Tryz.pinned (OpenSpec.ofChange retentionDeletionsWrong)

/- THE SECOND FORM. 'bulk': how many values and letters a reading holds, each counted each time it is reached (what is shared counts as often as it is met; a slice's spare places count too). A statement '..UptoSaid' is the law's where the arguments, and the package variables that the reading takes, are together of bulk at most 1048576: NARROWER than '..Said'. Prove '..Said' where nothing that the law and all that it calls make is longer than what came in: it says more and counts as full. Else prove '..UptoSaid'. A law counts once. -/
mutual
def uptoBulk {H : Type} : DataW H → Nat
  | .lit (.string bytes) => bytes.length + 1
  | .lit _ => 1
  | .nil => 1
  | .ptr d => uptoBulk d + 1
  | .slice elems spare => uptoBulkAll elems + uptoBulkAll spare + 1
  | .agg parts => uptoBulkAll parts + 1
  | .iface _ d => uptoBulk d + 1
  | .map entries => uptoBulkEntries entries + 1
  | .held _ => 1
def uptoBulkAll {H : Type} : List (DataW H) → Nat
  | [] => 0
  | d :: r => uptoBulk d + uptoBulkAll r
def uptoBulkEntries {H : Type} : List (Lit × DataW H) → Nat
  | [] => 0
  | x :: r => uptoBulkEntry x + uptoBulkEntries r
def uptoBulkEntry {H : Type} : Lit × DataW H → Nat
  | (.string bytes, d) => bytes.length + uptoBulk d + 1
  | (_, d) => uptoBulk d + 1
 end
def uptoSmall : (H : Type) → List (DataW H) → Bool := fun _ ds => decide (uptoBulkAll ds ≤ 1048576)
def OpenSpec.upto (s : _root_.Go.ChangeSpec) : _root_.Go.OpenSpec := { _root_.Go.OpenSpec.ofChange s with cond := some uptoSmall }

/-- 'erasurelaw19.HoldLooks', WHERE WHAT IT READS IS OF BULK AT MOST 1048576: true; the input reads as it did. -/
def holdLooksUptoRow : OpenClaim := { program := "ytlpgmdhnjckplaagreat", sum := "a3a0e71f4a2c03cda0ebff5d294d5acc0ecb5defab01064622bb7c1e7b9195c8", func := "erasure/erasurelaw19.HoldLooks", spec := "holdLooks", inPlace := ["internal/bytealg.abigen_runtime_cmpstring"], unfollowed := true, recurses := true, plainKeys := false, apart := false, narrowed := true }
def HoldLooksUptoSaid : Prop := holdLooksUptoRow.holds Tryz.pinned (OpenSpec.upto holdLooksSpec)

/-- 'erasurelaw18.RetentionUntil', WHERE WHAT IT READS IS OF BULK AT MOST 1048576: true; the input reads as it did. -/
def retentionUntilUptoRow : OpenClaim := { program := "ytlpgmdhnjckplaagreat", sum := "a3a0e71f4a2c03cda0ebff5d294d5acc0ecb5defab01064622bb7c1e7b9195c8", func := "erasure/erasurelaw18.RetentionUntil", spec := "retentionUntil", inPlace := ["internal/bytealg.abigen_runtime_cmpstring"], unfollowed := true, recurses := true, plainKeys := false, apart := false, narrowed := true }
def RetentionUntilUptoSaid : Prop := retentionUntilUptoRow.holds Tryz.pinned (OpenSpec.upto retentionUntilSpec)

/-- 'erasurelaw18.RetentionExpired', WHERE WHAT IT READS IS OF BULK AT MOST 1048576: true; the input reads as it did. -/
def retentionExpiredUptoRow : OpenClaim := { program := "ytlpgmdhnjckplaagreat", sum := "a3a0e71f4a2c03cda0ebff5d294d5acc0ecb5defab01064622bb7c1e7b9195c8", func := "erasure/erasurelaw18.RetentionExpired", spec := "retentionExpired", inPlace := ["internal/bytealg.abigen_runtime_cmpstring"], unfollowed := true, recurses := true, plainKeys := false, apart := false, narrowed := true }
def RetentionExpiredUptoSaid : Prop := retentionExpiredUptoRow.holds Tryz.pinned (OpenSpec.upto retentionExpiredSpec)

/-- 'erasurelaw18.RetentionLasts', WHERE WHAT IT READS IS OF BULK AT MOST 1048576: true; the input reads as it did. -/
def retentionLastsUptoRow : OpenClaim := { program := "ytlpgmdhnjckplaagreat", sum := "a3a0e71f4a2c03cda0ebff5d294d5acc0ecb5defab01064622bb7c1e7b9195c8", func := "erasure/erasurelaw18.RetentionLasts", spec := "retentionLasts", inPlace := ["internal/bytealg.abigen_runtime_cmpstring"], unfollowed := true, recurses := true, plainKeys := false, apart := false, narrowed := true }
def RetentionLastsUptoSaid : Prop := retentionLastsUptoRow.holds Tryz.pinned (OpenSpec.upto retentionLastsSpec)

/-- 'erasurelaw18.RetentionDeletions', WHERE WHAT IT READS IS OF BULK AT MOST 1048576: true; the input reads as it did. -/
def retentionDeletionsUptoRow : OpenClaim := { program := "ytlpgmdhnjckplaagreat", sum := "a3a0e71f4a2c03cda0ebff5d294d5acc0ecb5defab01064622bb7c1e7b9195c8", func := "erasure/erasurelaw18.RetentionDeletions", spec := "retentionDeletions", inPlace := ["internal/bytealg.abigen_runtime_cmpstring"], unfollowed := true, recurses := true, plainKeys := false, apart := false, narrowed := true }
def RetentionDeletionsUptoSaid : Prop := retentionDeletionsUptoRow.holds Tryz.pinned (OpenSpec.upto retentionDeletionsSpec)

end Rows
end Go.Proofs.YtlpgmdhnjckplaaGreat
