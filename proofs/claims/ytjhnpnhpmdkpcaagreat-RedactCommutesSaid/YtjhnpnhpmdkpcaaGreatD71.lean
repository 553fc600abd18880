/-
  Contracts and plain laws of this seat, part 71.
-/
import Derived.Test.YtjhnpnhpmdkpcaaGreatD69
import Derived.Test.YtjhnpnhpmdkpcaaGreatD65
set_option linter.unusedVariables false
set_option linter.unusedSimpArgs false
set_option maxRecDepth 100000
set_option maxHeartbeats 16000000
namespace Go.Proofs.YtjhnpnhpmdkpcaaGreat
open Go.RowKit Go
theorem lX(A:Option Addr)(c m:Nat)(ts:List Tab)(LA:Option Addr)(lc n:Nat)(l:List Chg)(w:World)(ht:aI w w.heap.size A ts)(hm:ts.length=m)(hs:aL ts)(hok:aW ts)(hl:dx w w.heap.size LA l)(hn:l.length=n)(hn6:n≤1000000)(hrow:∀x∈l,x.row.length≤1000000):
 Calls Tryz.prog 21 #[.agg #[.slice A m c,.slice none 0 0,.slice none 0 0,.slice none 0 0,.slice none 0 0,.slice none 0 0,.slice none 0 0,.slice none 0 0],.slice LA n lc] w fun e w'=>(∃q rt,e=.returned (.slice (some ⟨q,0,none⟩) m m)∧rt.length=m∧aR w' w'.heap.size (some ⟨q,0,none⟩) rt∧RUp w.heap.size (some ⟨q,0,none⟩) rt∧rt.map aB=bg ts l)∧Below w.heap.size w w':=
 Db (o:=Oth.nil) A c m ts LA lc n l w ht hm hs hok (fZ.nil ht hs hok) hl hn hn6 hrow
theorem vS{ts:List Tab}(hok:aW ts){l:List Chg}{rt:List RTab}(h:rt.map aB=bg ts l):iQ rt:=eD.uM (ts:=ts) (show gF ts (rt.map aB) by rw[h];exact(oW hok l).1) hok
theorem Gv{ts:List Tab}{l el:List Chg}(ho:gu ts l)(he:el.map unC=(ig (List.replicate ts.length dQ) l).map fun e=>unC e.1):bg ts el=bg ts l:=by
 rw[←xG ts el,he,←yI,wB ho.cat [] [] l ho.form,Ja]
theorem P5{ts:List Tab}{l el:List Chg}(ho:gu ts l)(he:el.map unC=(ig (List.replicate ts.length dQ) l).map fun e=>unC e.1):gu ts el:=by
 refine OT ?_
 rw[he,←yI]
 exact Ps ho [] [] _
theorem JL{ts:List Tab}{l el kl:List Chg}(he:el.map unC=(ig (List.replicate ts.length dQ) l).map fun e=>unC e.1)(hk:kl.map unC=(ig (List.replicate ts.length dQ) el).map fun e=>unC e.1):kl.map unC=el.map unC:=by
 rw[hk,←Eo,he,yQ]
end Go.Proofs.YtjhnpnhpmdkpcaaGreat
