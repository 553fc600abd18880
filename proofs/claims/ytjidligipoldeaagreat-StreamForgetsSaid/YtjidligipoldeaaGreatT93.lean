/-
  Contracts and plain laws of this seat, part 93.
-/
import Derived.Test.YtjidligipoldeaaGreatT86
import Derived.Test.YtjidligipoldeaaGreatT88
set_option linter.unusedVariables false
set_option linter.unusedSimpArgs false
set_option maxRecDepth 100000
set_option maxHeartbeats 16000000
namespace Go.Proofs.YtjidligipoldeaaGreat
open Go.RowKit Go
theorem M7{T:List aG}(hK:aT T){recs:List Rcd}(hp:recs.map aA=T){key:Val}(hv:bT key=true)(hk:key.kind≠0){r:aG}(hr:r∈T)(he:ay r=key):∃(p:Nat) (h:p<recs.length),gm recs key=(p:Int)∧aA recs[p]=r:=by
 rcases hK.found hv with ⟨hf,hi,hh⟩|⟨hf,hn⟩
 ·have h1:=iY hK hv hk hf
  obtain⟨i,hil,hir⟩:=List.getElem_of_mem hr
  have e:i=bQ T key:=by
   rcases Nat.lt_trichotomy i (bQ T key) with h|h|h
   ·have h2:=List.pairwise_iff_getElem.1 hK.asc i (bQ T key) hil hi h
    rw[hh,hir,he,bI.refl]at h2
    omega
   ·exact h
   ·have h2:=List.pairwise_iff_getElem.1 hK.asc (bQ T key) i hi hil h
    rw[hh,hir,he,bI.refl]at h2
    omega
  subst e
  have hl:bQ T key<recs.length:=by
   have h3:=congrArg List.length hp
   rw[List.length_map]at h3
   omega
  refine⟨bQ T key,hl,by rw[fG,hp,h1],?_⟩
  have h4:(recs.map aA)[bQ T key]'(by simpa using hl)=T[bQ T key]:=by simp only[hp]
  rw[List.getElem_map]at h4
  rw[h4,hir]
 ·exact absurd he (hn r hr)
theorem Le{ts:List Tab}{k:Nat}{l:List Chg}(ho:bK ts l)(ht:∀x∈l,x.table=(k:Int))(hk:k<ts.length)(hl:l.length≤200):dG (l.length:Int) (iG l)=(iG l).length:=by
 have h:=ng ho ht hk hl l.length nlr
 rw[List.take_of_length_le nlr]at h
 refine BQ h.log.asc nlr fun i hi=>⟨fun _=>(h.log.off _ (lgm hi)).2,fun _=>hi⟩
theorem Nb{ts:List Tab}{k:Nat}{l:List Chg}(ho:bK ts l)(ht:∀x∈l,x.table=(k:Int))(hk:k<ts.length)(hl:l.length≤200):
 (dR (l.length:Int) (iG l)).map Prod.snd=(l.map unC).flatMap (bS (dL [] (l.map unC))):=by
 unfold dR
 rw[Le ho ht hk hl,List.drop_of_length_le nlr,List.append_nil,List.take_of_length_le nlr,vN]
 unfold gG
 rw[List.take_of_length_le nlr,gQ]
theorem I4{ts:List Tab}{k:Nat}{l:List Chg}(ho:bK ts l)(ht:∀x∈l,x.table=(k:Int))(hk:k<ts.length)(hl:l.length≤200){es:List Ent}(he:es.map Ent.p=dR (l.length:Int) (iG l)){recs:List Rcd}(hp:recs.map aA=dL [] ((es.map Ent.p).map Prod.snd)):
 recs.map aA=dL [] (l.map unC) ∧ ∀x∈es,∃(p:Nat) (h:p<recs.length),gm recs (keyOf x.chg)=(p:Int)∧(x.chg.kind=2→∃j:Nat,x.chg.column=(j:Int) ∧ ∃hj:j<recs[p].row.length,recs[p].row[j]=x.chg.val)∧x.chg.row.length≤recs[p].row.length∧(x.chg.kind=1→0<x.chg.row.length) ∧ ∀j (hj:j<x.chg.row.length) (hj2:j<recs[p].row.length),x.chg.row[j]=recs[p].row[j]∨x.chg.row[j]=dS:=by
 have hok:=ho.cat
 have hc:=Nb ho ht hk hl
 have hou:=wR ho
 have htu:∀x∈l.map unC,x.table=(k:Int):=fun x hx=>by
  obtain⟨y,hy,rfl⟩:=List.mem_map.1 hx
  exact ht y hy
 obtain⟨c1,c2,c3⟩:=sO hok hk (l.length:Int) (es:=iG l) (by rw[gQ];exact hou) (by rw[gQ];exact htu)
 rw[he,c3,gQ]at hp
 refine⟨hp,fun x hx =>?_⟩
 have ha:=lT hou htu
 have hy:unC x.chg∈(l.map unC).flatMap (bS (dL [] (l.map unC))):=by
  rw[←hc,←he]
  exact List.mem_map_of_mem (f:=Prod.snd) (List.mem_map_of_mem (f:=Ent.p) hx)
 obtain⟨x0,hx0,r,hcut⟩:=GY hok hk ha hy
 rw[←hc]at hy
 have hf:=iP c1 _ hy
 have htb:=c2 _ hy
 have hcs:=Aw hok hf htb hk
 have hfk:=ou hok hf
 obtain⟨⟨q',hT⟩,_⟩:=j5 hok hk _ [] 0 (Good.nil _ _) ha
 have hK:=hT.ok.keys (hok.ae hk).1
 obtain⟨p,hpl,hfd,hpr⟩:=M7 hK hp hfk.val hfk.key hcut.mem hcut.key
 have hrl:=hT.ok.rcd r hcut.mem
 have hrow:recs[p].row=r.1:=congrArg (fun z=>z.1) hpr
 refine⟨p,hpl,hfd,fun h2 =>?_,?_,fun h1 =>?_,fun j hj hj2 =>?_⟩
 ·obtain⟨u1,u2⟩:=hcut.upd h2
  rcases hcs with ⟨h1,_⟩|⟨_,_,_,_,j,hj,_⟩|⟨_,h⟩
  ·exact absurd h1 (by show x.chg.kind≠1;omega)
  ·have hj':x.chg.column=(j:Int):=hj
   have e:(unC x.chg).column.toNat=j:=by rw[hj];exact Int.toNat_natCast j
   rw[e]at u1 u2
   refine⟨j,hj',by rw[hrow];exact u1,?_⟩
   rw[uH u1]at u2
   simp only[hrow]
   exact u2
  ·exact absurd h2 h
 ·rw[hrow]
  by_cases h1:x.chg.kind=1
  ·exact Nat.le_of_eq (hcut.ins h1)
  ·have h3:x.chg.row=[]:=hcut.row h1
   rw[h3]
   exact Nat.zero_le _
 ·have h3:x.chg.row.length=r.1.length:=hcut.ins h1
  rw[h3,hrl.len]
  exact(hok.ae hk).1
 ·have hj3:j<r.1.length:=by rw[←hrow];exact hj2
  have h3:=hcut.cell j hj
  rw[uH (l:=(unC x.chg).row) hj,uH hj3]at h3
  simp only[hrow]
  exact h3
end Go.Proofs.YtjidligipoldeaaGreat
