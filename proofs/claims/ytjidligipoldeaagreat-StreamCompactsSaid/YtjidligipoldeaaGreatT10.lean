/-
  Contracts and plain laws of this seat, part 10.
-/
import Derived.Test.YtjidligipoldeaaGreatT6
set_option linter.unusedVariables false
set_option linter.unusedSimpArgs false
set_option maxRecDepth 100000
set_option maxHeartbeats 16000000
namespace Go.Proofs.YtjidligipoldeaaGreat
open Go.RowKit Go
structure Idx where
 name:ByteArray
 src:ByteArray
 col:Int
structure Skt where
 name:ByteArray
 src:ByteArray
 col:Int
 kind:Int
 width:Int
 depth:Int
structure Cch where
 name:ByteArray
 src:ByteArray
 col:Int
 ttl:Int
structure Rel where
 name:ByteArray
 src:ByteArray
 thr:Int
structure Stm where
 name:ByteArray
 tab:ByteArray
structure Bak where
 name:ByteArray
 A:Option Addr
 n:Nat
 c:Nat
 keep:Int
structure Oth where
 vA:Option Addr
 vc:Nat
 iA:Option Addr
 ic:Nat
 idx:List Idx
 sA:Option Addr
 sc:Nat
 skt:List Skt
 cA:Option Addr
 cc:Nat
 cch:List Cch
 rA:Option Addr
 rc:Nat
 rel:List Rel
 tA:Option Addr
 tc:Nat
 str:List Stm
 bA:Option Addr
 bc:Nat
 bak:List Bak
theorem Cat.fU{w:World}{g:Nat}{a0 a1 a2 a3 a4 a5 a6 a7:Value}(k:Blk w g 33 #[a0,a1,a2,a3,a4,a5,a6,a7]):
 w.cell? ⟨g,0,none⟩=some a0∧w.cell? ⟨g,1,none⟩=some a1∧w.cell? ⟨g,2,none⟩=some a2∧w.cell? ⟨g,3,none⟩=some a3∧w.cell? ⟨g,4,none⟩=some a4∧w.cell? ⟨g,5,none⟩=some a5∧w.cell? ⟨g,6,none⟩=some a6∧w.cell? ⟨g,7,none⟩=some a7:=
 ⟨k.cell 0,k.cell 1,k.cell 2,k.cell 3,k.cell 4,k.cell 5,k.cell 6,k.cell 7⟩
def bW(ts:List Tab)(k:Int):List Col:=match ts[k.toNat]? with
 | some t=>t.ae
 | none =>[]
def oN(ae:List Col)(k:Int):Int:=match ae[k.toNat]? with
 | some x=>x.ty
 | none =>0
end Go.Proofs.YtjidligipoldeaaGreat
