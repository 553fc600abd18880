/-
  No cell of these rows narrows 'for every input' (looked for: loops, veiled, ifaces, maps, wideKeys, modest, calm, conditions, laid).
  DERIVED. THE GIVEN ROWS OF THIS SEAT. 4 by the template 'for every input the law returns true; each argument reads behind the call as it read before'; 0 by the template 'total and deterministic' (their statements: YtjidligipoldeaaGreatTotals.lean).
  GIVEN WITH THE SEED: the statements are not yours to turn. If you find one false, say at which input.
  Laid BY PROGRAM, IN A SANDBOX (cutbox-rows.mjs): the forced cells as the released guide's own fill.sh prints them over the translation 085a45684a7ef260… (all of the seat's roots in one cut). By AI agents, Wed Nov 11 2026. No macro, syntax, notation, axiom, sorry.
-/
import Derived.Test.YtjidligipoldeaaGreatChecked
import GoSem.Claim
import GoSem.ClaimJoined
import GoSem.ClaimMapViews
import Derived.JoinedTies
import Derived.KernelRfl
namespace Go.Proofs.YtjidligipoldeaaGreat
/- THE CELL 'sum', in the pinned program and in every row, IS THE sha256 OF THE DUMP (.gsa) THAT YtjidligipoldeaaGreatProg.lean LOADS. Nothing in Lean hashes anything: it is a label: what it is worth is what the hold of that sum in a sandbox is worth. -/
noncomputable def Tryz.pinned : Pinned := { name := "ytjidligipoldeaagreat", sum := "085a45684a7ef260187460565b7162f17acc3b3cdd9ae5aa1675e58399ca9886", checked := Tryz.checked }
namespace Rows
def none {H : Type} : Left H := { results := [], args := [] }

/-- 'erasurelaw29.StreamCompacts': WHATEVER THE INPUT: true; the input reads as it did. -/
def streamCompactsSpec : ChangeSpec := { name := "streamCompacts", fn := fun _ => fun
  | [d1, d2] => { results := [.lit (.bool true)], args := [d1, d2] }
  | _ => none }
def streamCompactsRow : OpenClaim := { program := "ytjidligipoldeaagreat", sum := "085a45684a7ef260187460565b7162f17acc3b3cdd9ae5aa1675e58399ca9886", func := "erasure/erasurelaw29.StreamCompacts", spec := "streamCompacts", inPlace := ["internal/bytealg.abigen_runtime_cmpstring", "slices.overlaps[erasure/api.Record]"], unfollowed := true, recurses := true, plainKeys := false, apart := false }
def StreamCompactsSaid : Prop := streamCompactsRow.holds Tryz.pinned (OpenSpec.ofChange streamCompactsSpec)

/-- ITS FALSE NEIGHBOUR: 'it returns false'. Refute it at one input. -/
def streamCompactsWrong : ChangeSpec := { name := "streamCompacts", fn := fun _ => fun
  | [d1, d2] => { results := [.lit (.bool false)], args := [d1, d2] }
  | _ => none }
def StreamCompactsWrongFalsely : Prop := streamCompactsRow.holds Tryz.pinned (OpenSpec.ofChange streamCompactsWrong)

/-- 'erasurelaw29.StreamForgets': WHATEVER THE INPUT: true; the input reads as it did. -/
def streamForgetsSpec : ChangeSpec := { name := "streamForgets", fn := fun _ => fun
  | [d] => { results := [.lit (.bool true)], args := [d] }
  | _ => none }
def streamForgetsRow : OpenClaim := { program := "ytjidligipoldeaagreat", sum := "085a45684a7ef260187460565b7162f17acc3b3cdd9ae5aa1675e58399ca9886", func := "erasure/erasurelaw29.StreamForgets", spec := "streamForgets", inPlace := ["internal/bytealg.abigen_runtime_cmpstring", "slices.overlaps[erasure/api.Record]"], unfollowed := true, recurses := true, plainKeys := false, apart := false }
def StreamForgetsSaid : Prop := streamForgetsRow.holds Tryz.pinned (OpenSpec.ofChange streamForgetsSpec)

/-- ITS FALSE NEIGHBOUR: 'it returns false'. Refute it at one input. -/
def streamForgetsWrong : ChangeSpec := { name := "streamForgets", fn := fun _ => fun
  | [d] => { results := [.lit (.bool false)], args := [d] }
  | _ => none }
def StreamForgetsWrongFalsely : Prop := streamForgetsRow.holds Tryz.pinned (OpenSpec.ofChange streamForgetsWrong)

/-- 'erasurelaw29.StreamReplays': WHATEVER THE INPUT: true; the input reads as it did. -/
def streamReplaysSpec : ChangeSpec := { name := "streamReplays", fn := fun _ => fun
  | [d] => { results := [.lit (.bool true)], args := [d] }
  | _ => none }
def streamReplaysRow : OpenClaim := { program := "ytjidligipoldeaagreat", sum := "085a45684a7ef260187460565b7162f17acc3b3cdd9ae5aa1675e58399ca9886", func := "erasure/erasurelaw29.StreamReplays", spec := "streamReplays", inPlace := ["internal/bytealg.abigen_runtime_cmpstring", "slices.overlaps[erasure/api.Record]"], unfollowed := true, recurses := true, plainKeys := false, apart := false }
def StreamReplaysSaid : Prop := streamReplaysRow.holds Tryz.pinned (OpenSpec.ofChange streamReplaysSpec)

/-- ITS FALSE NEIGHBOUR: 'it returns false'. Refute it at one input. -/
def streamReplaysWrong : ChangeSpec := { name := "streamReplays", fn := fun _ => fun
  | [d] => { results := [.lit (.bool false)], args := [d] }
  | _ => none }
def StreamReplaysWrongFalsely : Prop := streamReplaysRow.holds Tryz.pinned (OpenSpec.ofChange streamReplaysWrong)

/-- 'erasurelaw29.StreamConsumes': WHATEVER THE INPUT: true; the input reads as it did. -/
def streamConsumesSpec : ChangeSpec := { name := "streamConsumes", fn := fun _ => fun
  | [d1, d2, d3] => { results := [.lit (.bool true)], args := [d1, d2, d3] }
  | _ => none }
def streamConsumesRow : OpenClaim := { program := "ytjidligipoldeaagreat", sum := "085a45684a7ef260187460565b7162f17acc3b3cdd9ae5aa1675e58399ca9886", func := "erasure/erasurelaw29.StreamConsumes", spec := "streamConsumes", inPlace := ["internal/bytealg.abigen_runtime_cmpstring", "slices.overlaps[erasure/api.Record]"], unfollowed := true, recurses := true, plainKeys := false, apart := false }
def StreamConsumesSaid : Prop := streamConsumesRow.holds Tryz.pinned (OpenSpec.ofChange streamConsumesSpec)

/-- ITS FALSE NEIGHBOUR: 'it returns false'. Refute it at one input. -/
def streamConsumesWrong : ChangeSpec := { name := "streamConsumes", fn := fun _ => fun
  | [d1, d2, d3] => { results := [.lit (.bool false)], args := [d1, d2, d3] }
  | _ => none }
def StreamConsumesWrongFalsely : Prop := streamConsumesRow.holds Tryz.pinned (OpenSpec.ofChange streamConsumesWrong)

/- THE SECOND FORM. 'bulk': how many values and letters a reading holds, each counted each time it is reached (what is shared counts as often as it is met; a slice's spare places count too). A statement '..UptoSaid' is the law's where the arguments, and the package variables that the reading takes, are together of bulk at most 1048576: NARROWER than '..Said'. Prove '..Said' where nothing that the law and all that it calls make is longer than what came in: it says more and counts as full. Else prove '..UptoSaid'. A law counts once. -/
mutual
def uptoBulk {H : Type} : DataW H → Nat
  | .lit (.string bytes) => bytes.length + 1
  | .lit _ => 1
  | .nil => 1
  | .ptr d => uptoBulk d + 1
  | .slice elems spare => uptoBulkAll elems + uptoBulkAll spare + 1
  | .agg parts => uptoBulkAll parts + 1
  | .iface _ d => uptoBulk d + 1
  | .map entries => uptoBulkEntries entries + 1
  | .held _ => 1
def uptoBulkAll {H : Type} : List (DataW H) → Nat
  | [] => 0
  | d :: r => uptoBulk d + uptoBulkAll r
def uptoBulkEntries {H : Type} : List (Lit × DataW H) → Nat
  | [] => 0
  | x :: r => uptoBulkEntry x + uptoBulkEntries r
def uptoBulkEntry {H : Type} : Lit × DataW H → Nat
  | (.string bytes, d) => bytes.length + uptoBulk d + 1
  | (_, d) => uptoBulk d + 1
 end
def uptoSmall : (H : Type) → List (DataW H) → Bool := fun _ ds => decide (uptoBulkAll ds ≤ 1048576)
def OpenSpec.upto (s : _root_.Go.ChangeSpec) : _root_.Go.OpenSpec := { _root_.Go.OpenSpec.ofChange s with cond := some uptoSmall }

/-- 'erasurelaw29.StreamCompacts', WHERE WHAT IT READS IS OF BULK AT MOST 1048576: true; the input reads as it did. -/
def streamCompactsUptoRow : OpenClaim := { program := "ytjidligipoldeaagreat", sum := "085a45684a7ef260187460565b7162f17acc3b3cdd9ae5aa1675e58399ca9886", func := "erasure/erasurelaw29.StreamCompacts", spec := "streamCompacts", inPlace := ["internal/bytealg.abigen_runtime_cmpstring", "slices.overlaps[erasure/api.Record]"], unfollowed := true, recurses := true, plainKeys := false, apart := false, narrowed := true }
def StreamCompactsUptoSaid : Prop := streamCompactsUptoRow.holds Tryz.pinned (OpenSpec.upto streamCompactsSpec)

/-- 'erasurelaw29.StreamForgets', WHERE WHAT IT READS IS OF BULK AT MOST 1048576: true; the input reads as it did. -/
def streamForgetsUptoRow : OpenClaim := { program := "ytjidligipoldeaagreat", sum := "085a45684a7ef260187460565b7162f17acc3b3cdd9ae5aa1675e58399ca9886", func := "erasure/erasurelaw29.StreamForgets", spec := "streamForgets", inPlace := ["internal/bytealg.abigen_runtime_cmpstring", "slices.overlaps[erasure/api.Record]"], unfollowed := true, recurses := true, plainKeys := false, apart := false, narrowed := true }
def StreamForgetsUptoSaid : Prop := streamForgetsUptoRow.holds Tryz.pinned (OpenSpec.upto streamForgetsSpec)

/-- 'erasurelaw29.StreamReplays', WHERE WHAT IT READS IS OF BULK AT MOST 1048576: true; the input reads as it did. -/
def streamReplaysUptoRow : OpenClaim := { program := "ytjidligipoldeaagreat", sum := "085a45684a7ef260187460565b7162f17acc3b3cdd9ae5aa1675e58399ca9886", func := "erasure/erasurelaw29.StreamReplays", spec := "streamReplays", inPlace := ["internal/bytealg.abigen_runtime_cmpstring", "slices.overlaps[erasure/api.Record]"], unfollowed := true, recurses := true, plainKeys := false, apart := false, narrowed := true }
def StreamReplaysUptoSaid : Prop := streamReplaysUptoRow.holds Tryz.pinned (OpenSpec.upto streamReplaysSpec)

/-- 'erasurelaw29.StreamConsumes', WHERE WHAT IT READS IS OF BULK AT MOST 1048576: true; the input reads as it did. -/
def streamConsumesUptoRow : OpenClaim := { program := "ytjidligipoldeaagreat", sum := "085a45684a7ef260187460565b7162f17acc3b3cdd9ae5aa1675e58399ca9886", func := "erasure/erasurelaw29.StreamConsumes", spec := "streamConsumes", inPlace := ["internal/bytealg.abigen_runtime_cmpstring", "slices.overlaps[erasure/api.Record]"], unfollowed := true, recurses := true, plainKeys := false, apart := false, narrowed := true }
def StreamConsumesUptoSaid : Prop := streamConsumesUptoRow.holds Tryz.pinned (OpenSpec.upto streamConsumesSpec)

end Rows
end Go.Proofs.YtjidligipoldeaaGreat
