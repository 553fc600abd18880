/-
  Contracts and plain laws of this seat, part 54: Ordr.
-/
import Derived.Test.YtjhnpnhpmdkpcaaGreatB14
import Derived.Test.YtjhnpnhpmdkpcaaGreatB17
set_option linter.unusedVariables false
set_option linter.unusedSimpArgs false
set_option maxRecDepth 100000
set_option maxHeartbeats 16000000
namespace Go.Proofs.YtjhnpnhpmdkpcaaGreat
open Go.RowKit
variable {o:Oth}
structure OrdAt (ts:List Tab) (l:List Chg) (i:Nat) (h:i<l.length):Prop where
 form:formE ts l[i] = 0
 asc : ∀ (h0 : 0<i),l[i - 1].seq<l[i].seq∧l[i - 1].day≤l[i].day
structure OrdOk (ts:List Tab) (l:List Chg):Prop where
 cat:CatOk ts
 len:l.length ≤ 1024
 at_ : ∀ i (h:i<l.length),OrdAt ts l i h
end Go.Proofs.YtjhnpnhpmdkpcaaGreat
