/-
  Contracts and plain laws of this seat, part 30: RetF, DelP.
-/
import Derived.Test.YtjhnpnhpmdkpcaaGreatB24
import Derived.Test.YtjhnpnhpmdkpcaaGreatB6
import Derived.Test.YtjhnpnhpmdkpcaaGreatB10
import Derived.Test.YtjhnpnhpmdkpcaaGreatB3
import Derived.Test.YtjhnpnhpmdkpcaaGreatB1
import Derived.Test.YtjhnpnhpmdkpcaaGreatB4
import Derived.DeepKeys4
import Derived.Test.YtjhnpnhpmdkpcaaGreatB14
set_option linter.unusedVariables false
set_option linter.unusedSimpArgs false
set_option maxRecDepth 100000
set_option maxHeartbeats 16000000
namespace Go.Proofs.YtjhnpnhpmdkpcaaGreat
open Go.RowKit Go
def SrcsIn (l:List Src):Prop := ∀ s∈l,-1≤s.tab∧s.tab ≤ 1000 ∧ 0≤s.seq∧s.seq ≤ 1073741824
theorem SrcsIn.snoc {l:List Src} (h:SrcsIn l) {s:Src} (hs : -1≤s.tab∧s.tab ≤ 1000 ∧ 0≤s.seq∧s.seq ≤ 1073741824):SrcsIn (l ++ [s]):=fun x hx=>by
 rcases List.mem_append.1 hx with h1|h1
 ·exact h x h1
 ·rw [List.mem_singleton.1 h1];exact hs
end Go.Proofs.YtjhnpnhpmdkpcaaGreat
