/-
  No cell of these rows narrows 'for every input' (looked for: loops, veiled, ifaces, maps, wideKeys, modest, calm, conditions, laid).
  DERIVED. THE GIVEN ROWS OF THIS SEAT. 4 by the template 'for every input the law returns true; each argument reads behind the call as it read before'; 0 by the template 'total and deterministic' (their statements: YtjhnpnhpmdkpcaaGreatTotals.lean).
  GIVEN WITH THE SEED: the statements are not yours to turn. If you find one false, say at which input.
  Laid BY PROGRAM, IN A SANDBOX (cutbox-rows.mjs): the forced cells as the released guide's own fill.sh prints them over the translation 363be9ccd514c2ae… (all of the seat's roots in one cut). By AI agents, Wed Nov 11 2026. No macro, syntax, notation, axiom, sorry.
-/
import Derived.Test.YtjhnpnhpmdkpcaaGreatChecked
import GoSem.Claim
import GoSem.ClaimJoined
import GoSem.ClaimMapViews
import Derived.JoinedTies
import Derived.KernelRfl
namespace Go.Proofs.YtjhnpnhpmdkpcaaGreat
/- THE CELL 'sum', in the pinned program and in every row, IS THE sha256 OF THE DUMP (.gsa) THAT YtjhnpnhpmdkpcaaGreatProg.lean LOADS. Nothing in Lean hashes anything: it is a label: what it is worth is what the hold of that sum in a sandbox is worth. -/
noncomputable def Tryz.pinned : Pinned := { name := "ytjhnpnhpmdkpcaagreat", sum := "363be9ccd514c2aefd7bdfe9e3023e91246dea38fe70045efcce92776a21a2d8", checked := Tryz.checked }
namespace Rows
def none {H : Type} : Left H := { results := [], args := [] }

/-- 'erasurelaw21.RedactOthers': WHATEVER THE INPUT: true; the input reads as it did. -/
def redactOthersSpec : ChangeSpec := { name := "redactOthers", fn := fun _ => fun
  | [d] => { results := [.lit (.bool true)], args := [d] }
  | _ => none }
def redactOthersRow : OpenClaim := { program := "ytjhnpnhpmdkpcaagreat", sum := "363be9ccd514c2aefd7bdfe9e3023e91246dea38fe70045efcce92776a21a2d8", func := "erasure/erasurelaw21.RedactOthers", spec := "redactOthers", inPlace := ["internal/bytealg.abigen_runtime_cmpstring"], unfollowed := true, recurses := true, plainKeys := false, apart := false }
def RedactOthersSaid : Prop := redactOthersRow.holds Tryz.pinned (OpenSpec.ofChange redactOthersSpec)

/-- ITS FALSE NEIGHBOUR: 'it returns false'. Refute it at one input. -/
def redactOthersWrong : ChangeSpec := { name := "redactOthers", fn := fun _ => fun
  | [d] => { results := [.lit (.bool false)], args := [d] }
  | _ => none }
def RedactOthersWrongFalsely : Prop := redactOthersRow.holds Tryz.pinned (OpenSpec.ofChange redactOthersWrong)

/-- 'erasurelaw21.RedactTwice': WHATEVER THE INPUT: true; the input reads as it did. -/
def redactTwiceSpec : ChangeSpec := { name := "redactTwice", fn := fun _ => fun
  | [d] => { results := [.lit (.bool true)], args := [d] }
  | _ => none }
def redactTwiceRow : OpenClaim := { program := "ytjhnpnhpmdkpcaagreat", sum := "363be9ccd514c2aefd7bdfe9e3023e91246dea38fe70045efcce92776a21a2d8", func := "erasure/erasurelaw21.RedactTwice", spec := "redactTwice", inPlace := ["internal/bytealg.abigen_runtime_cmpstring"], unfollowed := true, recurses := true, plainKeys := false, apart := false }
def RedactTwiceSaid : Prop := redactTwiceRow.holds Tryz.pinned (OpenSpec.ofChange redactTwiceSpec)

/-- ITS FALSE NEIGHBOUR: 'it returns false'. Refute it at one input. -/
def redactTwiceWrong : ChangeSpec := { name := "redactTwice", fn := fun _ => fun
  | [d] => { results := [.lit (.bool false)], args := [d] }
  | _ => none }
def RedactTwiceWrongFalsely : Prop := redactTwiceRow.holds Tryz.pinned (OpenSpec.ofChange redactTwiceWrong)

/-- 'erasurelaw21.RedactEffective': WHATEVER THE INPUT: true; the input reads as it did. -/
def redactEffectiveSpec : ChangeSpec := { name := "redactEffective", fn := fun _ => fun
  | [d] => { results := [.lit (.bool true)], args := [d] }
  | _ => none }
def redactEffectiveRow : OpenClaim := { program := "ytjhnpnhpmdkpcaagreat", sum := "363be9ccd514c2aefd7bdfe9e3023e91246dea38fe70045efcce92776a21a2d8", func := "erasure/erasurelaw21.RedactEffective", spec := "redactEffective", inPlace := ["internal/bytealg.abigen_runtime_cmpstring", "slices.overlaps[erasure/api.Record]"], unfollowed := true, recurses := true, plainKeys := false, apart := false }
def RedactEffectiveSaid : Prop := redactEffectiveRow.holds Tryz.pinned (OpenSpec.ofChange redactEffectiveSpec)

/-- ITS FALSE NEIGHBOUR: 'it returns false'. Refute it at one input. -/
def redactEffectiveWrong : ChangeSpec := { name := "redactEffective", fn := fun _ => fun
  | [d] => { results := [.lit (.bool false)], args := [d] }
  | _ => none }
def RedactEffectiveWrongFalsely : Prop := redactEffectiveRow.holds Tryz.pinned (OpenSpec.ofChange redactEffectiveWrong)

/-- 'erasurelaw21.RedactCommutes': WHATEVER THE INPUT: true; the input reads as it did. -/
def redactCommutesSpec : ChangeSpec := { name := "redactCommutes", fn := fun _ => fun
  | [d] => { results := [.lit (.bool true)], args := [d] }
  | _ => none }
def redactCommutesRow : OpenClaim := { program := "ytjhnpnhpmdkpcaagreat", sum := "363be9ccd514c2aefd7bdfe9e3023e91246dea38fe70045efcce92776a21a2d8", func := "erasure/erasurelaw21.RedactCommutes", spec := "redactCommutes", inPlace := ["internal/bytealg.abigen_runtime_cmpstring", "slices.overlaps[erasure/api.Record]"], unfollowed := true, recurses := true, plainKeys := false, apart := false }
def RedactCommutesSaid : Prop := redactCommutesRow.holds Tryz.pinned (OpenSpec.ofChange redactCommutesSpec)

/-- ITS FALSE NEIGHBOUR: 'it returns false'. Refute it at one input. -/
def redactCommutesWrong : ChangeSpec := { name := "redactCommutes", fn := fun _ => fun
  | [d] => { results := [.lit (.bool false)], args := [d] }
  | _ => none }
def RedactCommutesWrongFalsely : Prop := redactCommutesRow.holds Tryz.pinned (OpenSpec.ofChange redactCommutesWrong)

/- THE SECOND FORM. 'bulk': how many values and letters a reading holds, each counted each time it is reached (what is shared counts as often as it is met; a slice's spare places count too). A statement '..UptoSaid' is the law's where the arguments, and the package variables that the reading takes, are together of bulk at most 1048576: NARROWER than '..Said'. Prove '..Said' where nothing that the law and all that it calls make is longer than what came in: it says more and counts as full. Else prove '..UptoSaid'. A law counts once. -/
mutual
def uptoBulk {H : Type} : DataW H → Nat
  | .lit (.string bytes) => bytes.length + 1
  | .lit _ => 1
  | .nil => 1
  | .ptr d => uptoBulk d + 1
  | .slice elems spare => uptoBulkAll elems + uptoBulkAll spare + 1
  | .agg parts => uptoBulkAll parts + 1
  | .iface _ d => uptoBulk d + 1
  | .map entries => uptoBulkEntries entries + 1
  | .held _ => 1
def uptoBulkAll {H : Type} : List (DataW H) → Nat
  | [] => 0
  | d :: r => uptoBulk d + uptoBulkAll r
def uptoBulkEntries {H : Type} : List (Lit × DataW H) → Nat
  | [] => 0
  | x :: r => uptoBulkEntry x + uptoBulkEntries r
def uptoBulkEntry {H : Type} : Lit × DataW H → Nat
  | (.string bytes, d) => bytes.length + uptoBulk d + 1
  | (_, d) => uptoBulk d + 1
 end
def uptoSmall : (H : Type) → List (DataW H) → Bool := fun _ ds => decide (uptoBulkAll ds ≤ 1048576)
def OpenSpec.upto (s : _root_.Go.ChangeSpec) : _root_.Go.OpenSpec := { _root_.Go.OpenSpec.ofChange s with cond := some uptoSmall }

/-- 'erasurelaw21.RedactOthers', WHERE WHAT IT READS IS OF BULK AT MOST 1048576: true; the input reads as it did. -/
def redactOthersUptoRow : OpenClaim := { program := "ytjhnpnhpmdkpcaagreat", sum := "363be9ccd514c2aefd7bdfe9e3023e91246dea38fe70045efcce92776a21a2d8", func := "erasure/erasurelaw21.RedactOthers", spec := "redactOthers", inPlace := ["internal/bytealg.abigen_runtime_cmpstring"], unfollowed := true, recurses := true, plainKeys := false, apart := false, narrowed := true }
def RedactOthersUptoSaid : Prop := redactOthersUptoRow.holds Tryz.pinned (OpenSpec.upto redactOthersSpec)

/-- 'erasurelaw21.RedactTwice', WHERE WHAT IT READS IS OF BULK AT MOST 1048576: true; the input reads as it did. -/
def redactTwiceUptoRow : OpenClaim := { program := "ytjhnpnhpmdkpcaagreat", sum := "363be9ccd514c2aefd7bdfe9e3023e91246dea38fe70045efcce92776a21a2d8", func := "erasure/erasurelaw21.RedactTwice", spec := "redactTwice", inPlace := ["internal/bytealg.abigen_runtime_cmpstring"], unfollowed := true, recurses := true, plainKeys := false, apart := false, narrowed := true }
def RedactTwiceUptoSaid : Prop := redactTwiceUptoRow.holds Tryz.pinned (OpenSpec.upto redactTwiceSpec)

/-- 'erasurelaw21.RedactEffective', WHERE WHAT IT READS IS OF BULK AT MOST 1048576: true; the input reads as it did. -/
def redactEffectiveUptoRow : OpenClaim := { program := "ytjhnpnhpmdkpcaagreat", sum := "363be9ccd514c2aefd7bdfe9e3023e91246dea38fe70045efcce92776a21a2d8", func := "erasure/erasurelaw21.RedactEffective", spec := "redactEffective", inPlace := ["internal/bytealg.abigen_runtime_cmpstring", "slices.overlaps[erasure/api.Record]"], unfollowed := true, recurses := true, plainKeys := false, apart := false, narrowed := true }
def RedactEffectiveUptoSaid : Prop := redactEffectiveUptoRow.holds Tryz.pinned (OpenSpec.upto redactEffectiveSpec)

/-- 'erasurelaw21.RedactCommutes', WHERE WHAT IT READS IS OF BULK AT MOST 1048576: true; the input reads as it did. -/
def redactCommutesUptoRow : OpenClaim := { program := "ytjhnpnhpmdkpcaagreat", sum := "363be9ccd514c2aefd7bdfe9e3023e91246dea38fe70045efcce92776a21a2d8", func := "erasure/erasurelaw21.RedactCommutes", spec := "redactCommutes", inPlace := ["internal/bytealg.abigen_runtime_cmpstring", "slices.overlaps[erasure/api.Record]"], unfollowed := true, recurses := true, plainKeys := false, apart := false, narrowed := true }
def RedactCommutesUptoSaid : Prop := redactCommutesUptoRow.holds Tryz.pinned (OpenSpec.upto redactCommutesSpec)

end Rows
end Go.Proofs.YtjhnpnhpmdkpcaaGreat
