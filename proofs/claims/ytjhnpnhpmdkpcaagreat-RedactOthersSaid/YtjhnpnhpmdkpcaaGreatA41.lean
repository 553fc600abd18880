/-
  Contracts and plain laws of this seat, part 41: THist.
-/
import Derived.Test.YtjhnpnhpmdkpcaaGreatA14
import Derived.Test.YtjhnpnhpmdkpcaaGreatA28
import Derived.Test.YtjhnpnhpmdkpcaaGreatA25
import Derived.Test.YtjhnpnhpmdkpcaaGreatA31
import Derived.Test.YtjhnpnhpmdkpcaaGreatA33
import Derived.Test.YtjhnpnhpmdkpcaaGreatA29
import Derived.Test.YtjhnpnhpmdkpcaaGreatA17
import Derived.Test.YtjhnpnhpmdkpcaaGreatA20
set_option linter.unusedVariables false
set_option linter.unusedSimpArgs false
set_option maxRecDepth 100000
set_option maxHeartbeats 16000000
namespace Go.Proofs.YtjhnpnhpmdkpcaaGreat
open Go.RowKit Go
variable {o:Oth}
def folB (x y:Chg):Bool:=decide (x.seq<y.seq)&&decide (x.day≤y.day)
def HGood (ts:List Tab) (l:List Chg) (i:Nat) (h:i<l.length):Prop:=formE ts l[i] = 0∧(∀ h0 : 0<i,folB (l[i - 1]' omA) l[i]=true) ∧ ∀ rt:List RTab,rt.map pureT=replayE ts (l.take i)→stateE ts rt l[i] = 0
end Go.Proofs.YtjhnpnhpmdkpcaaGreat
