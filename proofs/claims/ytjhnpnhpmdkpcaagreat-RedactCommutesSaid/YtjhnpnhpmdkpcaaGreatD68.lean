/-
  Contracts and plain laws of this seat, part 68.
-/
import Derived.Test.YtjhnpnhpmdkpcaaGreatD64
import Derived.Test.YtjhnpnhpmdkpcaaGreatD25
set_option linter.unusedVariables false
set_option linter.unusedSimpArgs false
set_option maxRecDepth 100000
set_option maxHeartbeats 16000000
namespace Go.Proofs.YtjhnpnhpmdkpcaaGreat
open Go.RowKit Go
theorem sD{v:List Vn}{k:Nat}{row:List Val}{sq:List Int}{i:Nat}(h:i<(bX v k row sq).length):(bX v k row sq)[i]=if 0<i∧(⟨(k:Int),(i:Int),sq.getD i 0⟩:Vn)∈v then ⟨0,0,⟨#[]⟩⟩ else row[i]'(by rw[gL]at h;exact h):=by
 simp[bX]
theorem gB.red{ae:List Col}{r:aS}(h:gB ae r.1 r.2.1 r.2.2)(v:List Vn)(k:Nat):gB ae (kD v k r).1 (kD v k r).2.1 (kD v k r).2.2:=by
 refine⟨by show (bX v k r.1 r.2.1).length=_;rw[gL];exact h.len,h.uL,h.day,fun i hi=>⟨fun hl =>?_,fun hl hk =>?_,(h.cell i hi).pos,(h.cell i hi).asc⟩,fun h0 =>?_⟩
 ·have e:(kD v k r).1[i]'hl=_:=sD hl
  rw[e]
  split
  ·decide +kernel
  ·exact(h.cell i hi).val _
 ·have e:(kD v k r).1[i]'hl=_:=sD hl
  rw[e]
  split
  ·simp[bR]
  ·exact(h.cell i hi).typ _ hk
 ·have e:(kD v k r).1[0]'h0=_:=sD h0
  rw[e,if_neg omA]
  exact h.key _
theorem Jv{v:List Vn}{k:Nat}{r:aS}:gm (kD v k r)=gm r:=rfl
theorem gD.red{ae:List Col}{t:List aS}(h:gD ae t)(v:List Vn)(s:List Src)(k:Nat):gD ae (iJ v s k t):=by
 refine⟨Nat.le_trans Du h.len,fun r hr =>?_,?_,?_⟩
 ·obtain⟨r0,h0,_,rfl⟩:=cz.1 hr
  exact(h.rcd r0 h0).red v k
 ·unfold iJ
  rw[List.pairwise_map]
  simp only[dL]
  exact h.asc.filter _
 ·unfold iJ
  rw[List.pairwise_map]
  simp only[Jv]
  exact h.own.filter _
theorem POk.red{ts:List Tab}{pl:List (List aS)}(h:POk ts pl)(v:List Vn)(s:List Src):POk ts (jF v s pl):=by
 refine⟨by rw[pI];exact h.len,fun i hi hi' =>?_⟩
 rw[pI]at hi
 rw[pJ v s pl hi]
 exact(h.tab i hi hi').red v s i
theorem I8(k:Nat)(t:List aS):iJ [] [] k t=t:=by
 unfold iJ
 have e1:stays [] k=fun _=>true:=by funext r;simp[stays]
 have e2:kD [] k=id:=by
  funext r
  have h:bX [] k r.1 r.2.1=r.1:=by
   unfold bX
   apply List.ext_getElem
   ·simp
   ·intro i h1 h2
    simp
  unfold kD
  rw[h]
  rfl
 rw[e1,e2,List.map_id]
 exact List.filter_eq_self.2 fun _ _=>rfl
theorem Ja(pl:List (List aS)):jF [] [] pl=pl:=by
 unfold jF
 apply List.ext_getElem
 ·simp
 intro i h1 h2
 rw[List.getElem_mapIdx,I8]
theorem Fu(A:Option Addr)(c m:Nat)(ts:List Tab)(RA:Option Addr)(rc n:Nat)(rt:List RTab)(w:World)(ht:aI w w.heap.size A ts)(hm:ts.length=m)(hs:aL ts)(hR:aR w w.heap.size RA rt)(hn:rt.length=n)(hsr:iQ rt)(hok:bS ts rt):
 Calls Tryz.prog 36 #[.agg #[.slice A m c,.slice none 0 0,.slice none 0 0,.slice none 0 0,.slice none 0 0,.slice none 0 0,.slice none 0 0,.slice none 0 0],.slice RA n rc] w fun e w'=>e=.returned (.bool true)∧Below w.heap.size w w':=
 IL (o:=Oth.nil) A c m ts RA rc n rt w ht hm hs hok.cat (fZ.nil ht hs hok.cat) hR hn hsr (aY hok)
theorem qz{ts:List Tab}{rt:List RTab}(h:bS ts rt):∀t∈rt,∀r∈t.recs,0<r.row.length∧r.row.length=r.seq.length ∧ ∀x∈r.seq,(1:Int)≤x∧x≤1073741824:=fun t ht r hr=>by
 obtain⟨i,hi,rfl⟩:=List.getElem_of_mem ht
 have hi':i<ts.length:=by rw[←h.len];exact hi
 have hc:=h.cat.ae hi'
 have hp:=(h.pure.tab i (by simpa using hi) hi').rcd (aP r) (by
  rw[List.getElem_map]
  exact List.mem_map_of_mem hr)
 have h1:r.row.length=ts[i].ae.length:=hp.len
 have h2:r.seq.length=ts[i].ae.length:=hp.uL
 refine⟨by omega,by omega,fun x hx =>?_⟩
 obtain⟨j,hj,rfl⟩:=List.getElem_of_mem hx
 have h3:=(hp.cell j omA).pos hj
 have h4:az r.seq[j] 1 1073741824=true:=h3
 simp only[az,Bool.and_eq_true,decide_eq_true_eq]at h4
 exact h4
theorem Dk{ts:List Tab}{rt:List RTab}(h:bS ts rt):iQ rt:=by
 have h8:=h.cat.len
 have hl:=h.len
 refine⟨by omega,fun t ht =>?_,fun t ht r hr =>?_,fun t ht r hr =>?_⟩
 all_goals
  obtain⟨i,hi,rfl⟩:=List.getElem_of_mem ht
  have hi':i<ts.length:=by omega
  have hc:=h.cat.ae hi'
  have hp:=h.pure.tab i (by simpa using hi) hi'
  rw[List.getElem_map]at hp
 ·have h1:(aB rt[i]).length≤64:=hp.len
  have h2:(aB rt[i]).length=rt[i].recs.length:=by simp[aB]
  omega
 ·have h1:r.row.length=ts[i].ae.length:=(hp.rcd (aP r) (List.mem_map_of_mem hr)).len
  omega
 ·have h1:r.seq.length=ts[i].ae.length:=(hp.rcd (aP r) (List.mem_map_of_mem hr)).uL
  omega
theorem Dt(A:Option Addr)(c m:Nat)(ts:List Tab)(RA:Option Addr)(rc n:Nat)(rt:List RTab)(VA:Option Addr)(vc vn:Nat)(v:List Vn)(GA:Option Addr)(gc gn:Nat)(s:List Src)(w:World)
 (ht:aI w w.heap.size A ts) (hm:ts.length=m) (hs:aL ts) (hR:aR w w.heap.size RA rt) (hn:rt.length=n) (hok:bS ts rt)
 (hV:ag w w.heap.size Vn.cells 3 VA v) (hvn:v.length=vn) (hv6:vn≤1000000) (hvk:∀x∈v,∃kl,Go.keyOf Tryz.prog 56 (vnV x)=some kl)
 (hG:ag w w.heap.size Src.cells 2 GA s) (hgn:s.length=gn) (hg6:gn≤1000000) (hgk:∀x∈s,∃kl,Go.keyOf Tryz.prog 51 (lu x)=some kl):
 Calls Tryz.prog 13 #[.agg #[.slice A m c,.slice none 0 0,.slice none 0 0,.slice none 0 0,.slice none 0 0,.slice none 0 0,.slice none 0 0,.slice none 0 0],.slice RA n rc,.slice VA vn vc,.slice GA gn gc] w fun e w' =>
  (∃q rt',e=.returned (.slice (some ⟨q,0,none⟩) n n)∧w.heap.size≤q∧rt'.length=n∧aR w' w'.heap.size (some ⟨q,0,none⟩) rt'∧bS ts rt'∧rt'.map aB=jF v s (rt.map aB))∧Below w.heap.size w w':=by
 refine(FH A m c none 0 0 none 0 0 none 0 0 none 0 0 none 0 0 none 0 0 none 0 0 RA rc n rt VA vc vn v GA gc gn s w (fun u hu=>Fu A c m ts RA rc n rt u (ht.next hu) hm hs (hR.next hu) hn (Dk hok) hok) hR hn (Dk hok) (fun t ht r hr=>⟨(qz hok t ht r hr).1,(qz hok t ht r hr).2.1,fun x hx=>by have:=(qz hok t ht r hr).2.2 x hx;omega⟩) hV hvn hv6 hvk hG hgn hg6 hgk).mono ?_
 rintro e w' ⟨⟨B,q,rt',rfl,hB,hl,hO,hT,hp⟩,hb⟩
 subst hl
 have hrd:=mV hO fun t ht=>⟨hT.tab t ht,fun x hx=>hT.row t ht x hx⟩
 refine⟨⟨q,rt',rfl,?_,rfl,hrd.1,POk.back hok.cat (by rw[hp];exact hok.pure.red v s),hp⟩,hb⟩
 exact Nat.le_trans hB (hO.row q rfl)
end Go.Proofs.YtjhnpnhpmdkpcaaGreat
