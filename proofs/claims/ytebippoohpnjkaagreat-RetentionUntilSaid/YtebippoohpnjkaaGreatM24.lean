/-
  Contracts and plain laws of this seat, part 24: RetE, RetD.
-/
import Derived.Test.YtebippoohpnjkaaGreatM4
import Derived.Test.YtebippoohpnjkaaGreatM3
import Derived.Test.YtebippoohpnjkaaGreatM17
set_option linter.unusedVariables false
set_option linter.unusedSimpArgs false
set_option maxRecDepth 100000
set_option maxHeartbeats 16000000
namespace Go.Proofs.YtebippoohpnjkaaGreat
open Go.RowKit
def endE (ts:List Tab) (x:aG):Int :=
 if 0≤x.table ∧ 0≤x.day∧x.day ≤ 1048576 then
  match ts[x.table.toNat]? with
  | some t=>if 0≤x.col then match t.af[x.col.toNat]? with
    | some c=>if c.bX = 0 then 0 else x.day+c.bX
    | none => 0
    else 0
  | none => 0
 else 0
def dB (u day:Int):Bool:=(u != 0)&&decide (day<u)
def uX (ts:List Tab) (o:List aG) (day:Int) (s:Src):Bool:=o.any fun x=>(x.last&&dB (endE ts x) day)&&((x.table==s.tab)&&(x.record==s.seq))
def Gb (i:Nat) (r:Rcd):Src:=⟨(i:Int),dL r⟩
def sQ (ts:List Tab) (o:List aG) (day:Int) (i:Nat) (ret:Int) (recs:List Rcd):List Src:=(recs.filter fun r=>decide (r.day+ret≤day) && !uX ts o day (Gb i r)).map (Gb i)
def wz (ts:List Tab) (i:Nat):Int:=match ts[i]? with
 | some t=>t.di
 | none => 0
def IP (rt:List RTab) (i:Nat):List Rcd:=match rt[i]? with
 | some t=>t.recs
 | none => []
def CZ (ts:List Tab) (rt:List RTab) (o:List aG) (day:Int) (i:Nat):List Src:=if wz ts i = 0 then [] else sQ ts o day i (wz ts i) (IP rt i)
def expE (ts:List Tab) (rt:List RTab) (o:List aG) (day:Int):Nat→List Src
 | 0 => []
 | n + 1=>expE ts rt o day n++CZ ts rt o day n
end Go.Proofs.YtebippoohpnjkaaGreat
