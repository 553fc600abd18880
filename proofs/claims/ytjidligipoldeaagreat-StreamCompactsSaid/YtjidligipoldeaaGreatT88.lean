/-
  Contracts and plain laws of this seat, part 88.
-/
import Derived.Test.YtjidligipoldeaaGreatT80
import Derived.Test.YtjidligipoldeaaGreatT83
set_option linter.unusedVariables false
set_option linter.unusedSimpArgs false
set_option maxRecDepth 100000
set_option maxHeartbeats 16000000
namespace Go.Proofs.YtjidligipoldeaaGreat
open Go.RowKit Go
theorem tq(w:World):Calls Tryz.prog 17 #[] w fun e w'=>e=.returned (.agg #[.int .i64 0,.int .i64 0,.slice none 0 0])∧Below w.heap.size w w':=by
 go_enter Tryz.func17,Tryz.ntmps17
 go_wp2_with fail
 have hB:Blk (w.alloc (.cells #[.int .i64 0,.int .i64 0,.slice none 0 0] 39)) w.heap.size 39 #[.int .i64 0,.int .i64 0,.slice none 0 0]:=Blk.new _ _ _
 have h0:=hB.cell 0
 have h1:=hB.cell 1
 have h2:=hB.cell 2
 simp only[gE3]at h0 h1 h2
 refine bodyPost_ret (v:= .agg #[.int .i64 0,.int .i64 0,.slice none 0 0]) (by simp[results,Tryz.results17,go_sem,h0,h1,h2]) rfl ⟨rfl,?_⟩
 exact ai
end Go.Proofs.YtjidligipoldeaaGreat
set_option maxRecDepth 100000
namespace Go.Proofs.YtjidligipoldeaaGreat
open Go.RowKit Go Go.Shelf
def iG(l:List Chg):List ja:=l.mapIdx fun i x=>((i:Int),unC x)
theorem Ih{l:List Chg}{i:Nat}(hi:i<l.length):iG (l.take (i+1))=iG (l.take i) ++ [((i:Int),unC l[i])]:=by
 unfold iG
 rw[List.take_succ_eq_append_getElem hi,List.mapIdx_append]
 congr 1
 simp[List.length_take,Nat.min_eq_left (Nat.le_of_lt hi)]
theorem gQ(l:List Chg):(iG l).map Prod.snd=l.map unC:=by
 refine List.ext_getElem (by simp[iG]) fun i h1 h2 =>?_
 simp[iG]
theorem CU(l:List Chg):(iG l).length=l.length:=by simp[iG]
theorem ng{ts:List Tab}{k:Nat}{l:List Chg}(ho:bK ts l)(ht:∀x∈l,x.table=(k:Int))(hk:k<ts.length)(hl:l.length≤200):∀i,i≤l.length→dF ts k 0 (i:Int) (iG (l.take i))
 | 0,_=>dF.nil ho.cat hk
 | i + 1,hi=>by
   have ih:=ng ho ht hk hl i omA
   rw[Ih omA]
   have h:=ih.app (x:=unC l[i]) (ht l[i] (lgm omA)) (by
    rw[gQ,←List.map_singleton,←List.map_append,←List.take_succ_eq_append_getElem omA]
    exact wR (pQ ho _)) (by rw[CU,List.length_take];omega) omA
   simpa using h
end Go.Proofs.YtjidligipoldeaaGreat
