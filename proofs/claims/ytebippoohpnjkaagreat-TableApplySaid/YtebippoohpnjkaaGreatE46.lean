/-
  Contracts and plain laws of this seat, part 46.
-/
import Derived.Test.YtebippoohpnjkaaGreatE25
set_option linter.unusedVariables false
set_option linter.unusedSimpArgs false
set_option maxRecDepth 100000
set_option maxHeartbeats 16000000
namespace Go.Proofs.YtebippoohpnjkaaGreat
open Go.RowKit Go
structure uO (w:World) (B:Nat) (A:Option Addr) (c n:Nat) (oo:Oth):Prop where
 prog:∀u,Below B w u→Calls Tryz.prog 48 #[.agg #[.slice A n c,.slice oo.vA 0 oo.vc,.slice oo.iA oo.idx.length oo.ic,.slice oo.sA oo.skt.length oo.sc,.slice oo.cA oo.cch.length oo.cc,.slice oo.rA oo.rel.length oo.rc,.slice oo.tA oo.str.length oo.tc,.slice oo.bA oo.bak.length oo.bc]] u fun e u'=>e=.returned (.bool false)∧Below u.heap.size u u'
 ref:∀u,Below B w u→Calls Tryz.prog 37 #[.agg #[.slice A n c,.slice oo.vA 0 oo.vc,.slice oo.iA oo.idx.length oo.ic,.slice oo.sA oo.skt.length oo.sc,.slice oo.cA oo.cch.length oo.cc,.slice oo.rA oo.rel.length oo.rc,.slice oo.tA oo.str.length oo.tc,.slice oo.bA oo.bak.length oo.bc]] u fun e u'=>e=.returned (.bool false)∧Below u.heap.size u u'
theorem uO.next{w w':World}{A:Option Addr}{c n:Nat}{oo:Oth}(h:uO w w.heap.size A c n oo)(hb:Below w.heap.size w w'):uO w' w'.heap.size A c n oo:=
 ⟨fun u hu=>h.prog u (ae hb hu hb.size),fun u hu=>h.ref u (ae hb hu hb.size)⟩
theorem uO.of{w:World}{A:Option Addr}{c:Nat}{ts:List Tab}{oo:Oth}(ht:aM w w.heap.size A ts)(hs:aK ts)(ho:cO w w.heap.size oo)(hso:eO oo)(h16:jb oo)(hok:¬ dD ts oo):uO w w.heap.size A c ts.length oo:=
 ⟨fun u hu=>(fq.no ht hs ho hso h16 hok u hu).1,fun u hu=>(fq.no ht hs ho hso h16 hok u hu).2⟩
theorem zu(A:Option Addr)(c m:Nat)(oo:Oth)(RA:Option Addr)(rc n:Nat)(w:World)(hx:uO w w.heap.size A c m oo):
 Calls Tryz.prog 102 #[.agg #[.slice A m c,.slice oo.vA 0 oo.vc,.slice oo.iA oo.idx.length oo.ic,.slice oo.sA oo.skt.length oo.sc,.slice oo.cA oo.cch.length oo.cc,.slice oo.rA oo.rel.length oo.rc,.slice oo.tA oo.str.length oo.tc,.slice oo.bA oo.bak.length oo.bc],.slice RA n rc] w fun e w'=>e=.returned (.bool false)∧Below w.heap.size w w':=by
 have HX:=qh hx
 clear hx
 go_enter Tryz.func102,Tryz.ntmps102
 go_wp2_with (go_at_call 37;(with_reducible refine(HX.out.ref _ ak).mono ?_);rintro e w1 ⟨rfl,hb1⟩;have hx1:Below w.heap.size w w1:=ae ak hb1 leA)
 go_ret
 exact⟨rfl,hx1⟩
end Go.Proofs.YtebippoohpnjkaaGreat
