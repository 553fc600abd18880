/-
  Contracts and plain laws of this seat, part 10.
-/
import Derived.Test.YtjidligipoldeaaGreatS6
set_option linter.unusedVariables false
set_option linter.unusedSimpArgs false
set_option maxRecDepth 100000
set_option maxHeartbeats 16000000
namespace Go.Proofs.YtjidligipoldeaaGreat
open Go.RowKit Go
structure Idx where
 name:ByteArray
 src:ByteArray
 col:Int
structure Skt where
 name:ByteArray
 src:ByteArray
 col:Int
 kind:Int
 width:Int
 depth:Int
structure Cch where
 name:ByteArray
 src:ByteArray
 col:Int
 ttl:Int
structure Rel where
 name:ByteArray
 src:ByteArray
 thr:Int
structure Stm where
 name:ByteArray
 tab:ByteArray
structure Bak where
 name:ByteArray
 A:Option Addr
 n:Nat
 c:Nat
 keep:Int
def Idx.cells(x:Idx):List Value:= [.string x.name,.string x.src,.int .i64 x.col]
def Skt.cells(x:Skt):List Value:= [.string x.name,.string x.src,.int .i64 x.col,.int .i64 x.kind,.int .i64 x.width,.int .i64 x.depth]
def Cch.cells(x:Cch):List Value:= [.string x.name,.string x.src,.int .i64 x.col,.int .i64 x.ttl]
def Rel.cells(x:Rel):List Value:= [.string x.name,.string x.src,.int .i64 x.thr]
def Stm.cells(x:Stm):List Value:= [.string x.name,.string x.tab]
def Bak.cells(x:Bak):List Value:= [.string x.name,.slice x.A x.n x.c,.int .i64 x.keep]
structure Oth where
 vA:Option Addr
 vc:Nat
 iA:Option Addr
 ic:Nat
 idx:List Idx
 sA:Option Addr
 sc:Nat
 skt:List Skt
 cA:Option Addr
 cc:Nat
 cch:List Cch
 rA:Option Addr
 rc:Nat
 rel:List Rel
 tA:Option Addr
 tc:Nat
 str:List Stm
 bA:Option Addr
 bc:Nat
 bak:List Bak
structure ui (w:World) (B:Nat) (o:Oth):Prop where
 idx:ag w B Idx.cells 3 o.iA o.idx
 skt:ag w B Skt.cells 6 o.sA o.skt
 cch:ag w B Cch.cells 4 o.cA o.cch
 rel:ag w B Rel.cells 3 o.rA o.rel
 str:ag w B Stm.cells 2 o.tA o.str
 bak:ag w B Bak.cells 3 o.bA o.bak
theorem ui.below{w w':World}{B:Nat}{o:Oth}(h:ui w B o)(hb:Below B w w'):ui w' B o:=⟨h.idx.below hb,h.skt.below hb,h.cch.below hb,h.rel.below hb,h.str.below hb,h.bak.below hb⟩
theorem ui.mono{w:World}{B B':Nat}{o:Oth}(h:ui w B o)(hb:B≤B'):ui w B' o:=⟨h.idx.mono hb,h.skt.mono hb,h.cch.mono hb,h.rel.mono hb,h.str.mono hb,h.bak.mono hb⟩
theorem ui.next{w w':World}{o:Oth}(h:ui w w.heap.size o)(hb:Below w.heap.size w w'):ui w' w'.heap.size o:=(h.below hb).mono hb.size
def Oth.names(o:Oth):List ByteArray:=o.idx.map Idx.name++(o.skt.map Skt.name++(o.cch.map Cch.name++(o.rel.map Rel.name++(o.str.map Stm.name++o.bak.map Bak.name))))
structure Qc (o:Oth):Prop where
 idx:o.idx.length≤100
 skt:o.skt.length≤100
 cch:o.cch.length≤100
 rel:o.rel.length≤100
 str:o.str.length≤100
 bak:o.bak.length≤100
 names:∀x∈o.names,x.size≤1000000
 Yy:∀x∈o.idx,x.src.size≤1000000
 Yw:∀x∈o.skt,x.src.size≤1000000
 ZT:∀x∈o.cch,x.src.size≤1000000
 Yx:∀x∈o.rel,x.src.size≤1000000
theorem Qc.len{o:Oth}(h:Qc o):o.names.length≤600:=by
 have h1:=h.idx
 have h2:=h.skt
 have h3:=h.cch
 have h4:=h.rel
 have h5:=h.str
 have h6:=h.bak
 simp only[Oth.names,List.length_append,List.length_map]
 omega
theorem Cat.fI{w:World}{g:Nat}{a0 a1 a2 a3 a4 a5 a6 a7:Value}(k:Blk w g 33 #[a0,a1,a2,a3,a4,a5,a6,a7]):
 w.cell? ⟨g,0,none⟩=some a0∧w.cell? ⟨g,1,none⟩=some a1∧w.cell? ⟨g,2,none⟩=some a2∧w.cell? ⟨g,3,none⟩=some a3∧w.cell? ⟨g,4,none⟩=some a4∧w.cell? ⟨g,5,none⟩=some a5∧w.cell? ⟨g,6,none⟩=some a6∧w.cell? ⟨g,7,none⟩=some a7:=
 ⟨k.cell 0,k.cell 1,k.cell 2,k.cell 3,k.cell 4,k.cell 5,k.cell 6,k.cell 7⟩
def dx(ts:List Tab)(k:Int):List Col:=match ts[k.toNat]? with
 | some t=>t.ae
 | none =>[]
def nZ(ae:List Col)(k:Int):Int:=match ae[k.toNat]? with
 | some x=>x.ty
 | none =>0
end Go.Proofs.YtjidligipoldeaaGreat
