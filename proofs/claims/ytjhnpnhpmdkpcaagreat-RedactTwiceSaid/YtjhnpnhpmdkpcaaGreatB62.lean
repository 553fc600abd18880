/-
  Contracts and plain laws of this seat, part 62: SameC.
-/
import Derived.Test.YtjhnpnhpmdkpcaaGreatB7
import Derived.Test.YtjhnpnhpmdkpcaaGreatB1
set_option linter.unusedVariables false
set_option linter.unusedSimpArgs false
set_option maxRecDepth 100000
set_option maxHeartbeats 16000000
namespace Go.Proofs.YtjhnpnhpmdkpcaaGreat
open Go.RowKit Go
theorem Chg.blk12 {w:World} {g:Nat} {x:Chg} (h:Blk w g 79 x.cells.toArray) :
 (w.cell? ⟨g,0,none⟩=some (.int .i64 x.kind)∧w.cell? ⟨g,1,none⟩=some (.int .i64 x.seq)∧w.cell? ⟨g,2,none⟩=some (.int .i64 x.day)∧w.cell? ⟨g,3,none⟩=some (.int .i64 x.table))∧w.cell? ⟨g,4,none⟩=some (.slice x.A x.row.length x.cap) ∧
 (w.cell? ⟨g,5,none⟩=some (.int .i64 x.key.kind)∧w.cell? ⟨g,6,none⟩=some (.int .i64 x.key.num)∧w.cell? ⟨g,7,none⟩=some (.string x.key.text))∧w.cell? ⟨g,8,none⟩=some (.int .i64 x.column) ∧
 w.cell? ⟨g,9,none⟩=some (.int .i64 x.val.kind)∧w.cell? ⟨g,10,none⟩=some (.int .i64 x.val.num)∧w.cell? ⟨g,11,none⟩=some (.string x.val.text) :=
 ⟨⟨h.cell 0,h.cell 1,h.cell 2,h.cell 3⟩,h.cell 4,⟨h.cell 5,h.cell 6,h.cell 7⟩,h.cell 8,h.cell 9,h.cell 10,h.cell 11⟩
end Go.Proofs.YtjhnpnhpmdkpcaaGreat
