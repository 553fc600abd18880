/-
  Contracts and plain laws of this seat, part 41: THist.
-/
import Derived.Test.YtjhnpnhpmdkpcaaGreatB14
import Derived.Test.YtjhnpnhpmdkpcaaGreatB28
import Derived.Test.YtjhnpnhpmdkpcaaGreatB25
import Derived.Test.YtjhnpnhpmdkpcaaGreatB31
import Derived.Test.YtjhnpnhpmdkpcaaGreatB33
import Derived.Test.YtjhnpnhpmdkpcaaGreatB29
import Derived.Test.YtjhnpnhpmdkpcaaGreatB17
import Derived.Test.YtjhnpnhpmdkpcaaGreatB20
set_option linter.unusedVariables false
set_option linter.unusedSimpArgs false
set_option maxRecDepth 100000
set_option maxHeartbeats 16000000
namespace Go.Proofs.YtjhnpnhpmdkpcaaGreat
open Go.RowKit Go
variable {o:Oth}
def folB (x y:Chg):Bool:=decide (x.seq<y.seq)&&decide (x.day≤y.day)
def HGood (ts:List Tab) (l:List Chg) (i:Nat) (h:i<l.length):Prop:=formE ts l[i] = 0∧(∀ h0 : 0<i,folB (l[i - 1]' omA) l[i]=true) ∧ ∀ rt:List RTab,rt.map pureT=replayE ts (l.take i)→stateE ts rt l[i] = 0
end Go.Proofs.YtjhnpnhpmdkpcaaGreat
