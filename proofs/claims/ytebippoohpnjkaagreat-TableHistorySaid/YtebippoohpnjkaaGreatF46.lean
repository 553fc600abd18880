/-
  Contracts and plain laws of this seat, part 46.
-/
import Derived.Test.YtebippoohpnjkaaGreatF25
set_option linter.unusedVariables false
set_option linter.unusedSimpArgs false
set_option maxRecDepth 100000
set_option maxHeartbeats 16000000
namespace Go.Proofs.YtebippoohpnjkaaGreat
open Go.RowKit Go
structure rP (w:World) (B:Nat) (A:Option Addr) (c n:Nat) (oo:Oth):Prop where
 prog:∀u,Below B w u→Calls Tryz.prog 48 #[.agg #[.slice A n c,.slice oo.vA 0 oo.vc,.slice oo.iA oo.idx.length oo.ic,.slice oo.sA oo.skt.length oo.sc,.slice oo.cA oo.cch.length oo.cc,.slice oo.rA oo.rel.length oo.rc,.slice oo.tA oo.str.length oo.tc,.slice oo.bA oo.bak.length oo.bc]] u fun e u'=>e=.returned (.bool false)∧Below u.heap.size u u'
 ref:∀u,Below B w u→Calls Tryz.prog 37 #[.agg #[.slice A n c,.slice oo.vA 0 oo.vc,.slice oo.iA oo.idx.length oo.ic,.slice oo.sA oo.skt.length oo.sc,.slice oo.cA oo.cch.length oo.cc,.slice oo.rA oo.rel.length oo.rc,.slice oo.tA oo.str.length oo.tc,.slice oo.bA oo.bak.length oo.bc]] u fun e u'=>e=.returned (.bool false)∧Below u.heap.size u u'
theorem rP.next{w w':World}{A:Option Addr}{c n:Nat}{oo:Oth}(h:rP w w.heap.size A c n oo)(hb:Below w.heap.size w w'):rP w' w'.heap.size A c n oo:=
 ⟨fun u hu=>h.prog u (ae hb hu hb.size),fun u hu=>h.ref u (ae hb hu hb.size)⟩
theorem rP.of{w:World}{A:Option Addr}{c:Nat}{ts:List Tab}{oo:Oth}(ht:aJ w w.heap.size A ts)(hs:aI ts)(ho:bL w w.heap.size oo)(hso:dN oo)(h16:gV oo)(hok:¬ dD ts oo):rP w w.heap.size A c ts.length oo:=
 ⟨fun u hu=>(dZ.no ht hs ho hso h16 hok u hu).1,fun u hu=>(dZ.no ht hs ho hso h16 hok u hu).2⟩
end Go.Proofs.YtebippoohpnjkaaGreat
