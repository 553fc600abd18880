/-
  Contracts and plain laws of this seat, part 24.
-/
import Derived.Test.YtebippoohpnjkaaGreatN17
set_option linter.unusedVariables false
set_option linter.unusedSimpArgs false
set_option maxRecDepth 100000
set_option maxHeartbeats 16000000
namespace Go.Proofs.YtebippoohpnjkaaGreat
open Go.RowKit
def endE(ts:List Tab)(x:aF):Int:=
 if 0≤x.table ∧ 0≤x.day∧x.day≤1048576 then
  match ts[x.table.toNat]? with
  | some t=>if 0≤x.col then match t.af[x.col.toNat]? with
    | some c=>if c.cu=0 then 0 else x.day+c.cu
    | none =>0
    else 0
  | none =>0
 else 0
def dS(u day:Int):Bool:=(u != 0)&&decide (day<u)
def jq(ts:List Tab)(o:List aF)(day:Int)(s:Src):Bool:=o.any fun x=>(x.last&&dS (endE ts x) day)&&((x.table==s.tab)&&(x.record==s.seq))
def nX(i:Nat)(r:Rcd):Src:=⟨(i:Int),cB r⟩
def sJ(ts:List Tab)(o:List aF)(day:Int)(i:Nat)(ret:Int)(recs:List Rcd):List Src:=(recs.filter fun r=>decide (r.day+ret≤day) && !jq ts o day (nX i r)).map (nX i)
def gU(ts:List Tab)(i:Nat):Int:=match ts[i]? with
 | some t=>t.cK
 | none =>0
def nJ(rt:List RTab)(i:Nat):List Rcd:=match rt[i]? with
 | some t=>t.recs
 | none =>[]
def Aj(ts:List Tab)(rt:List RTab)(o:List aF)(day:Int)(i:Nat):List Src:=if gU ts i=0 then [] else sJ ts o day i (gU ts i) (nJ rt i)
def expE(ts:List Tab)(rt:List RTab)(o:List aF)(day:Int):Nat→List Src
 | 0 =>[]
 | n+1=>expE ts rt o day n++Aj ts rt o day n
def ji(rt:List RTab):Nat→List Src
 | 0 =>[]
 | n+1=>ji rt n++(nJ rt n).map (nX n)
theorem qF{rt:List RTab}{i:Nat}(h:i<rt.length):nJ rt i=rt[i].recs:=by
 unfold nJ
 rw[List.getElem?_eq_getElem h]
theorem rY:∀ {l l':List Src},l.Perm l'→l.Pairwise (fun a b=>dK a b∨a=b)→l'.Pairwise (fun a b=>dK a b∨a=b)→l=l'
 | [],l',hp,_,_=>by rw[List.nil_perm.1 hp]
 | x::l,[],hp,_,_=>by have:=hp.length_eq;simp at this
 | x::l,y::l',hp,h1,h2=>by
   have hxy:x=y:=by
    have hx:x∈y::l':=hp.mem_iff.1 spA
    have hy:y∈x::l:=hp.mem_iff.2 spA
    rcases List.mem_cons.1 hx with h|h
    ·exact h
    ·rcases List.mem_cons.1 hy with k|k
     ·exact k.symm
     ·rcases(List.pairwise_cons.1 h2).1 x h with a|a
      ·rcases(List.pairwise_cons.1 h1).1 y k with b|b
       ·exact absurd (jo a b) (tV y)
       ·exact b
      ·exact a.symm
   subst hxy
   rw[rY (List.Perm.cons_inv hp) (List.pairwise_cons.1 h1).2 (List.pairwise_cons.1 h2).2]
def VJ(rt:List RTab)(s:Src):Val:=match (nJ rt s.tab.toNat).find? (fun r=>cB r==s.seq) with
 | some r=>gu r
 | none=>⟨0,0,⟨#[]⟩⟩
end Go.Proofs.YtebippoohpnjkaaGreat
