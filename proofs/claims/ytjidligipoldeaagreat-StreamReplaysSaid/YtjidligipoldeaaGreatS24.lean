/-
  Contracts and plain laws of this seat, part 24.
-/
import Derived.Test.YtjidligipoldeaaGreatS17
set_option linter.unusedVariables false
set_option linter.unusedSimpArgs false
set_option maxRecDepth 100000
set_option maxHeartbeats 16000000
namespace Go.Proofs.YtjidligipoldeaaGreat
open Go.RowKit
def VU(i:Nat)(r:Rcd):Src:=⟨(i:Int),gD r⟩
def PL(rt:List RTab)(i:Nat):List Rcd:=match rt[i]? with
 | some t=>t.recs
 | none =>[]
open Go.RowKit Go
open Go.Maps (Keyed)
def rR(v:Value):Option (DataW Value × List MemPlace):=some (.held v,[])
def jm(P:Program)(k:TypeId)(w:World)(b n:Nat)(f:Value→Option Value):Prop:=
 ∃D:DataW Value,w.ownsMap P k rR b n D ∧ ∀x kl,Go.keyOf P k x=some kl →
  (f x=none→Maps.has D kl=false) ∧ ∀y,f x=some y→Maps.has D kl=true ∧ ∀z,D.atKey kl z=.held y
section
variable {P:Program}{k e t:TypeId}{w:World}{b n:Nat}{f:Value→Option Value}
theorem jm.made(w:World)(P:Program)(k:TypeId):jm P k (w.alloc (.map #[] 0)) w.heap.size 0 (fun _=>none):=
 ⟨.map [],World.ownsMap_made w P k _,fun x kl _=>⟨fun _=>rfl,fun y h=>by cases h⟩⟩
theorem jm.lt(h:jm P k w b n f):b<w.heap.size:=by obtain⟨D,h,_⟩:=h;exact h.lt
theorem jm.mono(h:jm P k w b n f){m:Nat}(hm:n≤m):jm P k w b m f:=by obtain⟨D,h,h'⟩:=h;exact⟨D,h.mono hm,h'⟩
theorem jm.kept{w':World}{row:Option Nat}(h:jm P k w b n f)(hg:w.grownBy w' row)(hne:some b≠row):jm P k w' b n f:=by obtain⟨D,h,h'⟩:=h;exact⟨D,h.kept hg hne,h'⟩
theorem jm.alloc(h:jm P k w b n f)(o:Obj):jm P k (w.alloc o) b n f:=by obtain⟨D,h,h'⟩:=h;exact⟨D,h.alloc o,h'⟩
theorem jm.drew(h:jm P k w b n f):jm P k w.drew b n f:=h
theorem jm.below{w':World}{B:Nat}(h:jm P k w b n f)(hb:Below B w w')(hB:b<B):jm P k w' b n f:=by
 obtain⟨D,⟨es,clock,hs,F⟩,h'⟩:=h
 exact⟨D,⟨es,clock,(hb.block b hB).trans hs,F⟩,h'⟩
theorem jm.eqf(h:jm P k w b n f){g:Value→Option Value}(hg:∀x kl,Go.keyOf P k x=some kl→g x=f x):jm P k w b n g:=by
 obtain⟨D,h,h'⟩:=h
 exact⟨D,h,fun x kl hx=>by rw[hg x kl hx];exact h' x kl hx⟩
theorem rQ{v y:Value}{ps:List MemPlace}(h:rR v=some (.held y,ps)):v=y:=by
 unfold rR at h
 injection h with h
 injection h with h _
 injection h
theorem jm.look(h:jm P k w b n f)(K:Keyed P k)(ht:P.underlying t=some (.map k e)){z:Value}(hz:(zeroValue e).run P w=.ok z w){x:Value}{kl:Lit}(hx:Go.keyOf P k x=some kl):
 (Instr.lookup t (.map (some b)) x false).run P w=.ok ((f x).getD z) w:=by
 obtain⟨D,h,h'⟩:=h
 obtain⟨v,ps,hrun,hv⟩:=h.lookup K ht hz (zd:= .held z) (zp:= []) rfl hx
 rw[hrun]
 cases hf:f x with
 | none =>
   rw[Maps.atKey_of_not_has ((h' x kl hx).1 hf)]at hv
   rw[rQ hv]
   rfl
 | some y =>
   obtain⟨_,hat⟩:=(h' x kl hx).2 y hf
   rw[hat]at hv
   rw[rQ hv]
   rfl
theorem jm.store(h:jm P k w b n f)(K:Keyed P k)(ht:P.underlying t=some (.map k e))(hn:n<maxLen){x y:Value}{kl:Lit}(hx:Go.keyOf P k x=some kl):
 ∃w',(Instr.mapUpdate t (.map (some b)) x y).run P w=.ok () w'∧(∀f',f' x=some y→(∀u,u≠x→f' u=f u)→jm P k w' b (n+1) f')∧w.grownBy w' (some b):=by
 obtain⟨D,h,h'⟩:=h
 obtain⟨w',hrun,ho,hg⟩:=h.update K ht hn hx (val:=y) (d:= .held y) (ps:= []) rfl
 refine⟨w',hrun,fun f' h1 h2=>⟨_,ho,fun u ul hu =>?_⟩,hg⟩
 have hD:=h.isMap
 have hkl:=K.key hx
 by_cases hux:u=x
 ·subst hux
  rw[hx]at hu
  injection hu with hu
  subst hu
  rw[h1]
  refine⟨fun h=>(Option.some_ne_none _ h).elim,fun y' hy' =>?_⟩
  injection hy' with hy'
  subst hy'
  exact⟨Maps.has_put_same hD hkl _,fun z=>Maps.atKey_put_same hD hkl _ z⟩
 ·have hne:ul≠kl:=fun e=>hux (K.inj hu (by rw[e];exact hx))
  rw[h2 u hux]
  refine⟨fun hf=>by rw[Maps.has_put_other hne];exact(h' u ul hu).1 hf,fun y' hf =>?_⟩
  obtain⟨hh,hat⟩:=(h' u ul hu).2 y' hf
  exact⟨by rw[Maps.has_put_other hne];exact hh,fun z=>by rw[Maps.atKey_put_other hne];exact hat z⟩
end
section
variable {P:Program}(w:World) {ops:Array Oper}{rest:List Oper}{o:Oper}{a:Act}{Q:Exit→Act→World→Prop}
end
def Nf(rt:List RTab):Nat→List Src
 | 0 =>[]
 | n+1=>Nf rt n++(PL rt n).map (VU n)
theorem xm:∀ {l l':List Src},l.Perm l'→l.Pairwise (fun a b=>oO a b∨a=b)→l'.Pairwise (fun a b=>oO a b∨a=b)→l=l'
 | [],l',hp,_,_=>by rw[List.nil_perm.1 hp]
 | x::l,[],hp,_,_=>by have:=hp.length_eq;simp at this
 | x::l,y::l',hp,h1,h2=>by
   have hxy:x=y:=by
    have hx:x∈y::l':=hp.mem_iff.1 spA
    have hy:y∈x::l:=hp.mem_iff.2 spA
    rcases List.mem_cons.1 hx with h|h
    ·exact h
    ·rcases List.mem_cons.1 hy with k|k
     ·exact k.symm
     ·rcases(List.pairwise_cons.1 h2).1 x h with a|a
      ·rcases(List.pairwise_cons.1 h1).1 y k with b|b
       ·exact absurd (Dh a b) (BB y)
       ·exact b
      ·exact a.symm
   subst hxy
   rw[xm (List.Perm.cons_inv hp) (List.pairwise_cons.1 h1).2 (List.pairwise_cons.1 h2).2]
noncomputable def PH(rt:List RTab)(gone:List Src):List Src:=(Nf rt rt.length).filter fun s=>decide (s∈gone)
def VZ(rt:List RTab)(s:Src):Val:=match (PL rt s.tab.toNat).find? (fun r=>gD r==s.seq) with
 | some r=>fC r
 | none=>⟨0,0,⟨#[]⟩⟩
def XH(rt:List RTab)(seq day:Int)(i:Nat)(s:Src):Chg:=⟨3,seq+i,day,s.tab,none,0,[],VZ rt s,0,⟨0,0,⟨#[]⟩⟩⟩
def R6(rt:List RTab)(seq day:Int)(l:List Src):List Chg:=l.mapIdx (XH rt seq day)
structure Qe (ts:List Tab) (rt:List RTab) (gone:List Src) (seq day:Int):Prop where
 tabs:dI ts rt
 Yv:0≤day∧day≤1048576
 Yr:1≤seq∧seq≤1073741824
 fit:seq+(PH rt gone).length≤1073741825
end Go.Proofs.YtjidligipoldeaaGreat
