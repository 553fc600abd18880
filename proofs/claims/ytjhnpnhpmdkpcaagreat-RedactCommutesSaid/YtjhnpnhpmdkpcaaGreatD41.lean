/-
  Contracts and plain laws of this seat, part 41.
-/
import Derived.Test.YtjhnpnhpmdkpcaaGreatD36
set_option linter.unusedVariables false
set_option linter.unusedSimpArgs false
set_option maxRecDepth 100000
set_option maxHeartbeats 16000000
namespace Go.Proofs.YtjhnpnhpmdkpcaaGreat
open Go.RowKit Go
variable {o:Oth}
def U7(x y:Chg):Bool:=decide (x.seq<y.seq)&&decide (x.day≤y.day)
def VM(ts:List Tab)(l:List Chg)(i:Nat)(h:i<l.length):Prop:=aZ ts l[i]=0∧(∀h0:0<i,U7 (l[i-1]' omA) l[i]=true) ∧ ∀rt:List RTab,rt.map aB=bg ts (l.take i)→mF ts rt l[i]=0
end Go.Proofs.YtjhnpnhpmdkpcaaGreat
