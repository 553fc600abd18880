/-
  Contracts and plain laws of this seat, part 28.
-/
import Derived.Test.YtebippoohpnjkaaGreatE17
set_option linter.unusedVariables false
set_option linter.unusedSimpArgs false
set_option maxRecDepth 100000
set_option maxHeartbeats 16000000
namespace Go.Proofs.YtebippoohpnjkaaGreat
open Go.RowKit
theorem tC{x y:Val}(hx:bN x=true)(hy:bN y=true)(h:bz x y=0):x=y:=by
 rw[pQ,j3 hx,j3 hy]at h
 exact Ap h
def ND(r:cK):Int:=r.2.1.headD 0
structure tJ (af:List Col) (l:List cK):Prop where
 len:l.length≤64
 rcd:∀r∈l,gH af r.1 r.2.1 r.2.2
 asc:l.Pairwise (fun a b=>bz (bO a) (bO b)<0)
 own:l.Pairwise (fun a b=>ND a≠ND b)
structure POk (ts:List Tab) (pl:List (List cK)):Prop where
 len:pl.length=ts.length
 tab:∀i (h:i<pl.length) (h':i<ts.length),tJ ts[i].af pl[i]
theorem Eu{l:List cK}(h:∀k (hk:k<l.length) (h0:0<k),bz (bO (l[k-1]' omA)) (bO l[k])<0):l.Pairwise (fun a b=>bz (bO a) (bO b)<0):=by
 rw[List.pairwise_iff_getElem]
 intro i j hi hj hij
 obtain⟨d,rfl⟩:∃d,j=i+1+d:=⟨j-(i+1),by omega⟩
 clear hij
 induction d with
 | zero=>exact h (i+1) hj omA
 | succ d ih =>
   have h1:=ih omA
   have h2:=h (i+1+(d+1)) hj omA
   have e:l[i+1+(d+1)-1]' omA=l[i+1+d]' omA:=by congr 1
   rw[e]at h2
   exact eZ.Ju h1 omA
theorem RTabOk.pure{af:List Col}{recs:List Rcd}(h:RTabOk af recs):tJ af (recs.map aN):=by
 refine⟨by simpa using h.len,fun r hr =>?_,Eu fun k hk h0 =>?_,?_⟩
 ·obtain⟨x,hx,rfl⟩:=List.mem_map.1 hr
  obtain⟨j,hj,rfl⟩:=List.getElem_of_mem hx
  exact(h.at_ j hj).ok
 ·have hk':k<recs.length:=by simpa using hk
  rw[List.getElem_map,List.getElem_map]
  exact(h.at_ k hk').asc h0
 ·rw[List.pairwise_iff_getElem]
  intro i j hi hj hij
  rw[List.getElem_map,List.getElem_map]
  have hj':j<recs.length:=by simpa using hj
  exact(h.at_ j hj').own i hij
theorem tJ.back{af:List Col}{recs:List Rcd}(h:tJ af (recs.map aN)):RTabOk af recs:=by
 refine⟨by simpa using h.len,fun k hk=>⟨h.rcd (aN recs[k]) (List.mem_map_of_mem (lgm hk)),fun h0 =>?_,fun j hj =>?_⟩⟩
 ·have h1:=List.pairwise_iff_getElem.1 h.asc (k-1) k smA (by simpa using hk) omA
  rw[List.getElem_map,List.getElem_map]at h1
  exact h1
 ·have h1:=List.pairwise_iff_getElem.1 h.own j k smA (by simpa using hk) hj
  rw[List.getElem_map,List.getElem_map]at h1
  exact h1
theorem bf.pure{ts:List Tab}{rt:List RTab}(h:bf ts rt):POk ts (rt.map aG):=
 ⟨by simpa using h.len,fun i hi hi'=>by rw[List.getElem_map];exact(h.tab i (by simpa using hi) hi').pure⟩
theorem POk.back{ts:List Tab}{rt:List RTab}(hok:aX ts)(h:POk ts (rt.map aG)):bf ts rt:=
 ⟨hok,by simpa using h.len,fun i hi hi'=>by have h1:=h.tab i (by simpa using hi) hi';rw[List.getElem_map]at h1;exact h1.back⟩
theorem POk.zero(ts:List Tab):POk ts (List.replicate ts.length []):=
 ⟨by simp,fun i hi hi'=>by rw[List.getElem_replicate];exact⟨by simp,fun r hr=>(by cases hr),List.Pairwise.nil,List.Pairwise.nil⟩⟩
theorem vV:∀(l:List Int) (a:Int),a≤l.foldl max a ∧ ∀x∈l,x≤l.foldl max a
 | [],a=>⟨Int.le_refl _,fun x hx=>by cases hx⟩
 | y::l,a=>by
   have h:=vV l (max a y)
   rw[List.foldl_cons]
   refine⟨by have:=h.1;omega,fun x hx =>?_⟩
   rcases List.mem_cons.1 hx with rfl|hx
   ·have:=h.1;omega
   ·exact h.2 x hx
theorem le_last{rt:List RTab}{t:RTab}(ht:t∈rt){r:Rcd}(hr:r∈t.recs){s:Int}(hs:s∈r.seq):s≤fZ rt:=by
 unfold fZ mZ
 refine(vV _ 0).2 s ?_
 unfold jF
 exact List.mem_flatMap.2 ⟨t,ht,List.mem_flatMap.2 ⟨r,hr,hs⟩⟩
structure MV (ts:List Tab) (x:Chg) (k:Nat) (h:k<ts.length):Prop where
 len:x.row.length=ts[k].af.length
 vals:∀v∈x.row,bN v=true
 typ:fK ts[k].af x.row
 day:aC x.day 0 1048576=true
 key:(keyOf x).kind≠0
structure Fs (ts:List Tab) (x:Chg) (k c:Nat) (h:k<ts.length):Prop where
 col:x.column=(c:Int)
 lt:c<ts[k].af.length
 pos:0<c
 val:bN x.val=true
 typ:di x.val ts[k].af[c].ty=true
theorem nU{ts:List Tab}{x:Chg}(h:dw ts x=0):bu ts x=false∧(keyOf x).kind≠0∧fK (dn ts x.table) x.row∧iD (dn ts x.table) x=false∧(x.kind == 2&&pb (dh (dn ts x.table) x.column))=false:=by
 unfold dw at h
 split at h
 ·omega
 ·rename_i h1
  split at h
  ·omega
  ·rename_i h2
   split at h
   ·omega
   ·rename_i h3
    split at h
    ·omega
    ·rename_i h4
     split at h
     ·omega
     ·rename_i h5
      exact⟨by simpa using h1,by simpa using h2,iC.1 (by simpa using h3),by simpa using h4,by simpa using h5⟩
theorem BS{ts:List Tab}{x:Chg}(h:dw ts x=0)(hk1:x.kind=1){k:Nat}(hin:jm ts x k):MV ts x k hin.lt:=by
 obtain⟨h1,h2,h3,h4,h5⟩:=nU h
 have hlt:=hin.lt
 unfold bu at h1
 rw[Bool.or_eq_false_iff]at h1
 obtain⟨hh,hb⟩:=h1
 have e1:(x.kind == 1)=true:=by simpa using hk1
 rw[e1,if_pos rfl]at hb
 unfold eQ at hh
 unfold dH at hb
 simp only[Bool.or_eq_false_iff,Bool.not_eq_false']at hh hb
 have hr:=hb.2
 unfold si at hr
 rw[Bool.and_eq_true,List.all_eq_true]at hr
 rw[hin.tab,bV hlt]at h3
 refine⟨by rw[hin.ins hk1,bV hlt],hr.2,h3,hh.1.2,h2⟩
theorem BO{ts:List Tab}{x:Chg}(h:dw ts x=0)(hk2:x.kind=2){k:Nat}(hin:jm ts x k):∃c,Fs ts x k c hin.lt:=by
 obtain⟨h1,h2,h3,h4,h5⟩:=nU h
 have hlt:=hin.lt
 obtain⟨c,hc,hcl⟩:=hin.upd hk2
 rw[bV hlt]at hcl
 unfold bu at h1
 rw[Bool.or_eq_false_iff]at h1
 obtain⟨hh,hb⟩:=h1
 have e1:(x.kind == 1)=false:=by rw[hk2];rfl
 have e2:(x.kind == 2)=true:=by rw[hk2];rfl
 rw[e1,if_neg (by decide),e2,if_pos rfl]at hb
 unfold dA at hb
 simp only[Bool.or_eq_false_iff,Bool.not_eq_false']at hb
 unfold iD at h4
 rw[e2,Bool.true_and,Bool.or_eq_false_iff,hin.tab,bV hlt,hc,j5 hcl]at h4
 rw[e2,Bool.true_and,hin.tab,bV hlt,hc]at h5
 have h6:¬ dh ts[k].af (c:Int):=fun hf=>by rw[aS hf]at h5;cases h5
 refine⟨c,hc,hcl,?_,hb.2,by simpa using h4.2⟩
 rcases Nat.eq_zero_or_pos c with rfl|h0
 ·exact absurd (.inl rfl) h6
 ·exact h0
theorem qQ{x:Chg}(hk:x.kind=1):keyOf x=bO (jG x):=by
 unfold keyOf bO jG
 rw[if_pos (by simpa using hk)]
structure fU (l:List cK):Prop where
 row:∀r∈l,0<r.1.length
 val:∀r∈l,bN (bO r)=true
 asc:l.Pairwise (fun a b=>bz (bO a) (bO b)<0)
theorem Eh{r:cK}(h:0<r.1.length):bO r=r.1[0]:=by
 obtain⟨a,b⟩:=r
 cases a with
 | nil=>simp at h
 | cons u us=>rfl
theorem tJ.keys{af:List Col}{l:List cK}(h:tJ af l)(h0:0<af.length):fU l:=
 ⟨fun r hr=>by rw[(h.rcd r hr).len];exact h0,fun r hr=>by
  have hl:0<r.1.length:=by rw[(h.rcd r hr).len];exact h0
  rw[Eh hl]
  exact((h.rcd r hr).cell 0 h0).val hl,h.asc⟩
def gq(l:List cK)(key:Val):Nat:=(l.takeWhile fun y=>decide (bz (bO y) key<0)).length
def bZ(l:List cK)(key:Val):Bool:=match l[gq l key]? with
 | some r=>decide (bO r=key)
 | none=>false
theorem vL(l:List cK)(r:cK):nJ l r=gq l (bO r):=rfl
theorem AU{α:Type}{p:α→Bool}:∀ {l:List α}{i:Nat}(hi:i≤l.length),(∀j (h:j<l.length),j<i→p l[j]=true)→(∀h:i<l.length,p l[i]=false)→(l.takeWhile p).length=i
 | [],i,hi,_,_=>by simp at hi;simp[hi]
 | a::l,0,_,_,h2=>by
   have h:=h2 spA
   rw[List.takeWhile_cons,if_neg (by simpa using h)]
   rfl
 | a::l,i + 1,hi,h1,h2=>by
   have h:=h1 0 spA omA
   rw[List.takeWhile_cons,if_pos (by simpa using h),List.length_cons,AU (l:=l) (i:=i) (by simpa using hi) (fun j hj hji=>by have:=h1 (j+1) (by simpa using hj) omA;simpa using this) (fun h=>by have:=h2 (by simpa using h);simpa using this)]
theorem sD{l:List cK}{key:Val}{i:Nat}(hi:i≤l.length)(hlo:∀j (h:j<l.length),j<i→0<bz key (bO l[j]))(hhi:∀h:i<l.length,bz key (bO l[i])≤0):gq l key=i:=by
 unfold gq
 refine AU hi (fun j h hji =>?_) (fun h =>?_)
 ·have h1:=hlo j h hji
  have h2:=eZ.qx key (bO l[j])
  exact decide_eq_true omA
 ·have h1:=hhi h
  have h2:=eZ.qx key (bO l[i])
  exact decide_eq_false omA
theorem fU.mono{l:List cK}(h:fU l){key:Val}{i j:Nat}(hij:i<j)(hj:j<l.length)(hc:bz key (bO (l[i]' omA))≤0):bz key (bO l[j])<0:=by
 have h1:=List.pairwise_iff_getElem.1 h.asc i j omA hj hij
 have h2:=eZ.qx key (bO (l[i]' omA))
 have h3:=eZ.trans (bO l[j]) (bO (l[i]' omA)) key
 have h4:=eZ.qx (bO (l[i]' omA)) (bO l[j])
 have h5:=eZ.qx key (bO l[j])
 rcases Int.lt_or_le (bz key (bO l[j])) 0 with h6|h6
 ·exact h6
 ·have h7:=eZ.Ju h1 (z:=key) omA
  omega
theorem l7{l:List cK}(h:fU l){key:Val}(hv:bN key=true){i:Nat}(hp:gq l key=i):bZ l key=true ↔ ∃hi:i<l.length,bz key (bO l[i])=0:=by
 unfold bZ
 rw[hp]
 constructor
 ·intro hf
  rcases Nat.lt_or_ge i l.length with hi|hi
  ·rw[List.getElem?_eq_getElem hi]at hf
   have e:bO l[i]=key:=by simpa using hf
   exact⟨hi,by rw[e];exact eZ.refl key⟩
  ·rw[List.getElem?_eq_none hi]at hf
   cases hf
 ·rintro⟨hi,hc⟩
  rw[List.getElem?_eq_getElem hi]
  exact decide_eq_true (tC hv (h.val _ (lgm hi)) hc).symm
theorem sP{r:cK}{key:Val}(h:0<r.1.length):r.1.head?=some key↔bO r=key:=by
 obtain⟨a,b⟩:=r
 cases a with
 | nil=>simp at h
 | cons u us=>simp[bO]
theorem lh{l:List cK}(h:fU l){key:Val}(hv:bN key=true)(hk:key.kind≠0)(hf:bZ l key=true):eU l key=(gq l key:Int):=by
 obtain⟨hi,hc⟩:=(l7 h hv rfl).1 hf
 unfold eU
 rw[if_pos (by rw[hv];simpa using hk)]
 refine wO hi ?_ fun j hj hji =>?_
 ·have e:=tC hv (h.val _ (lgm hi)) hc
  exact decide_eq_true ((sP (h.row _ (lgm hi))).2 e.symm)
 ·rw[decide_eq_false_iff_not,sP (h.row _ (lgm hj))]
  intro e
  have h1:=List.pairwise_iff_getElem.1 h.asc j (gq l key) hj hi hji
  rw[e]at h1
  omega
theorem mM{l:List cK}(h:fU l){key:Val}(hv:bN key=true)(hf:bZ l key=false):eU l key<0:=by
 rcases Int.lt_or_le (eU l key) 0 with h1|h1
 ·exact h1
 exfalso
 unfold eU at h1
 split at h1
 ·rename_i hc
  obtain⟨m,hm,he,hp⟩:=uA h1
  have e:bO l[m]=key:=(sP (h.row _ (lgm hm))).1 (by simpa using hp)
  have hpl:gq l key=m:=sD omA (fun j hj hji=>by
   have h2:=List.pairwise_iff_getElem.1 h.asc j m hj hm hji
   rw[e]at h2
   have h3:=eZ.qx key (bO l[j])
   omega) (fun _=>by rw[e,eZ.refl];exact Int.le_refl _)
  have h4:=(l7 h hv hpl).2 ⟨hm,by rw[e];exact eZ.refl key⟩
  rw[h4]at hf
  cases hf
 ·omega
theorem wP{l:List cK}(h:fU l){key:Val}(hv:bN key=true)(hk:key.kind≠0):decide (0≤eU l key)=bZ l key:=by
 cases hf:bZ l key
 ·exact decide_eq_false (by have:=mM h hv hf;omega)
 ·exact decide_eq_true (by rw[lh h hv hk hf];omega)
theorem xN{l:List cK}(h:fU l){x:Chg}(hk1:x.kind=1)(hv:bN (keyOf x)=true)(hf:bZ l (keyOf x)=false)(hl:l.length<64):dz l x=l.take (gq l (keyOf x))++jG x::l.drop (gq l (keyOf x)):=by
 rw[sH hk1 (mM h hv hf) omA]
 unfold sN
 rw[vL,←qQ hk1,List.append_assoc]
 rfl
theorem vN{l:List cK}(h:fU l){x:Chg}(hk1:x.kind=1)(hv:bN (keyOf x)=true)(hf:bZ l (keyOf x)=false)(hl:64≤l.length):dz l x=l:=vO hk1 (mM h hv hf) hl
theorem Di{α:Type}{l:List α}{i:Nat}(hi:i<l.length)(y:α):l.set i y=l.take i++y::l.drop (i+1):=by
 rw[List.set_eq_take_append_cons_drop,if_pos hi]
theorem xM{l:List cK}(h:fU l){x:Chg}(hk1:x.kind=1)(hv:bN (keyOf x)=true)(hkk:(keyOf x).kind≠0)(hf:bZ l (keyOf x)=true):dz l x=l.set (gq l (keyOf x)) (jG x):=by
 rw[yJ hk1 (lh h hv hkk hf)]
 obtain⟨i,hie⟩:∃i,gq l (keyOf x)=i:=⟨_,rfl⟩
 obtain⟨hi,hc⟩:=(l7 h hv hie).1 hf
 rw[hie]
 have hlen:(l.take i).length=i:=by rw[List.length_take];omega
 have hp:nJ (kP l i) (jG x)=i:=by
  rw[vL,←qQ hk1]
  refine sD (by unfold kP;simp;omega) (fun j hj hji =>?_) (fun hj =>?_)
  ·have hjl:j<l.length:=by omega
   have e0:(kP l i)[j]?=l[j]?:= by
    unfold kP
    rw[List.getElem?_append_left (by rw[hlen];exact hji),List.getElem?_take_of_lt hji]
   rw[List.getElem?_eq_getElem hj,List.getElem?_eq_getElem hjl]at e0
   have e1:=Option.some.inj e0
   rw[e1]
   have h2:=List.pairwise_iff_getElem.1 h.asc j i hjl hi hji
   have h3:=eZ.qx (bO l[j]) (bO l[i])
   have h4:keyOf x=bO l[i]:=by
    have:=tC hv (h.val _ (lgm hi)) hc
    exact this
   rw[h4]
   omega
  ·have hjl:i+1<l.length:=by unfold kP at hj;simp at hj;omega
   have e0:(kP l i)[i]?=l[i+1]?:= by
    unfold kP
    rw[List.getElem?_append_right (by rw[hlen];exact Nat.le_refl _),hlen,List.getElem?_drop]
    congr 1
    omega
   rw[List.getElem?_eq_getElem hj,List.getElem?_eq_getElem hjl]at e0
   have e1:=Option.some.inj e0
   rw[e1]
   exact Int.le_of_lt (h.mono (Nat.lt_succ_self i) hjl omA)
 unfold sN
 rw[hp,Di hi]
 have t1:(kP l i).take i=l.take i:=by unfold kP;exact List.take_left' hlen
 have t2:(kP l i).drop i=l.drop (i+1):=by unfold kP;exact List.drop_left' hlen
 rw[t1,t2,List.append_assoc]
 rfl
theorem zL{l:List cK}(h:fU l){x:Chg}(hk3:x.kind=3)(hv:bN (keyOf x)=true)(hkk:(keyOf x).kind≠0)(hf:bZ l (keyOf x)=true):dz l x=kP l (gq l (keyOf x)):=yK omA omA (lh h hv hkk hf)
theorem zK{l:List cK}(h:fU l){x:Chg}(hk2:x.kind=2)(hv:bN (keyOf x)=true)(hkk:(keyOf x).kind≠0)(hf:bZ l (keyOf x)=true):dz l x=CV l (gq l (keyOf x)) x:=sG hk2 (lh h hv hkk hf)
theorem xO{l:List cK}(h:fU l){x:Chg}(hk1:x.kind≠1)(hv:bN (keyOf x)=true)(hf:bZ l (keyOf x)=false):dz l x=l:=vM hk1 (mM h hv hf)
theorem nT{ts:List Tab}{x:Chg}(h:dw ts x=0)(hok:aX ts):bN (keyOf x)=true∧(keyOf x).kind≠0:=by
 obtain⟨h1,h2,_,_,_⟩:=nU h
 refine⟨?_,h2⟩
 obtain⟨k,hin⟩:=iO h
 rcases hin.kind with hk1|hk2|hk3
 ·have hi:=BS h hk1 hin
  rw[qQ hk1,jY (by rw[hi.len];exact(hok.af hin.lt).1)]
  exact hi.vals _ (lgm _)
 ·unfold bu at h1
  rw[Bool.or_eq_false_iff]at h1
  have hb:=h1.2
  have e1:(x.kind == 1)=false:=by rw[hk2];rfl
  have e2:(x.kind == 2)=true:=by rw[hk2];rfl
  rw[e1,if_neg (by decide),e2,if_pos rfl]at hb
  unfold dA at hb
  simp only[Bool.or_eq_false_iff,Bool.not_eq_false']at hb
  unfold keyOf
  rw[if_neg (by rw[e1];decide)]
  exact hb.1.1.2
 ·unfold bu at h1
  rw[Bool.or_eq_false_iff]at h1
  have hb:=h1.2
  have e1:(x.kind == 1)=false:=by rw[hk3];rfl
  have e2:(x.kind == 2)=false:=by rw[hk3];rfl
  rw[e1,if_neg (by decide),e2,if_neg (by decide)]at hb
  unfold fC at hb
  simp only[Bool.or_eq_false_iff,Bool.not_eq_false']at hb
  unfold keyOf
  rw[if_neg (by rw[e1];decide)]
  exact hb.2
def jP(m:Nat)(x:Chg):Bool:=decide (x.seq<1)||(decide (1073741824<x.seq)||(decide (x.day<0)||(decide (1048576<x.day)||(decide (x.table<0)||decide ((m:Int)≤x.table)))))
noncomputable def jh(af:List Col)(x:Chg):Int:=if dH af.length x=true then 1 else if ((keyOf x).kind == 0)=true then 6 else if pb (fK af x.row)=false then 5 else 0
noncomputable def lC(af:List Col)(x:Chg):Int:=if dA af.length x=true then 1 else if (x.key.kind == 0)=true then 6 else if (!di x.val (lF af x.column)||x.key.kind != lF af 0)=true then 5 else if pb (dh af x.column)=true then 11 else 0
def lQ(af:List Col)(x:Chg):Int:=if fC x=true then 1 else if (x.key.kind == 0)=true then 6 else if (x.key.kind != lF af 0)=true then 5 else 0
theorem mU{m:Nat}{x:Chg}:eQ m x=(!aC x.kind 1 3||jP m x):=by
 unfold eQ jP aC
 by_cases h1:1≤x.kind<;>by_cases h2:x.kind≤3<;>by_cases h3:1≤x.seq<;>by_cases h4:x.seq≤1073741824<;>by_cases h5:0≤x.day<;>by_cases h6:x.day≤1048576<;>by_cases h7:0≤x.table<;>by_cases h8:x.table≤(m:Int)-1<;>simp[h1,h2,h3,h4,h5,h6,h7,h8]<;>omega
theorem Gy{ts:List Tab}{x:Chg}(h:jP ts.length x=true):dw ts x=1:=by
 unfold dw
 rw[if_pos]
 unfold bu
 rw[mU,h]
 simp
theorem Gz{ts:List Tab}{x:Chg}(h1:x.kind≠1)(h2:x.kind≠2)(h3:x.kind≠3):dw ts x=1:=by
 unfold dw
 rw[if_pos]
 unfold bu
 rw[mU]
 have:aC x.kind 1 3=false:=by
  unfold aC
  by_cases h4:1≤x.kind<;>by_cases h5:x.kind≤3<;>simp[h4,h5]
  omega
 rw[this]
 simp
section
variable {ts:List Tab}{x:Chg}{k:Nat}
theorem Ad(h:jP ts.length x=false)(hk:x.kind=1∨x.kind=2∨x.kind=3):eQ ts.length x=false:=by
 rw[mU,h]
 have:aC x.kind 1 3=true:=by rcases hk with h|h|h<;>rw[h]<;>decide
 rw[this]
 rfl
theorem BQ(h:jP ts.length x=false)(hk:x.kind=1)(ht:x.table=(k:Int))(hkt:k<ts.length)(h0:0<ts[k].af.length):dw ts x=jh ts[k].af x:=by
 have hh:=Ad h (.inl hk)
 have e1:(x.kind == 1)=true:=by rw[hk];rfl
 have e2:(x.kind == 2)=false:=by rw[hk];rfl
 have hinv:bu ts x=dH ts[k].af.length x:=by
  unfold bu
  rw[hh,e1,ht,bV hkt]
  rfl
 unfold dw jh iD
 rw[hinv,e2,ht,bV hkt]
 simp only[Bool.false_and,Bool.or_false,Bool.false_eq_true,if_false]
 split
 ·rfl
 rename_i hb
 split
 ·rfl
 split
 ·rfl
 rename_i hr
 have hr:fK ts[k].af x.row:=iC.1 (by simpa using hr)
 have hlen:x.row.length=ts[k].af.length:=by
  unfold dH at hb
  simp only[Bool.not_eq_true,Bool.or_eq_false_iff]at hb
  have:=hb.1.2
  have:((x.row.length:Int)=(ts[k].af.length:Int)):=by simpa using this
  omega
 have hl0:0<x.row.length:=by omega
 have hkey:keyOf x=x.row[0]:=by rw[qQ hk,jY hl0]
 have hty:=hr 0 hl0 h0
 rw[if_neg]
 rw[hkey,show (0:Int)=((0:Nat):Int) from rfl,j5 h0,hty]
 decide
theorem yw{v:Val}{t:Int}(h:(v.kind == 0)=false):(!di v t)=(v.kind != t):=by
 unfold di
 rw[h]
 simp[bne]
theorem BP(h:jP ts.length x=false)(hk:x.kind=2)(ht:x.table=(k:Int))(hkt:k<ts.length):dw ts x=lC ts[k].af x:=by
 have hh:=Ad h (.inr (.inl hk))
 have e1:(x.kind == 1)=false:=by rw[hk];rfl
 have e2:(x.kind == 2)=true:=by rw[hk];rfl
 have ek:keyOf x=x.key:=by unfold keyOf;rw[e1,if_neg (by decide)]
 have hinv:bu ts x=dA ts[k].af.length x:=by
  unfold bu
  rw[hh,e1,e2,ht,bV hkt]
  rfl
 unfold dw lC iD
 rw[hinv,e2,ht,bV hkt,ek]
 simp only[Bool.true_and]
 split
 ·rfl
 rename_i hb
 split
 ·rfl
 rename_i hz
 have hz:(x.key.kind == 0)=false:=by simpa using hz
 have hrow:x.row=[]:=by
  unfold dA at hb
  simp only[Bool.not_eq_true,Bool.or_eq_false_iff]at hb
  have:=hb.1.1.1
  have:¬ 0<x.row.length:=by simpa using this
  exact List.eq_nil_of_length_eq_zero omA
 have hr:pb (fK ts[k].af x.row)=true:=aS fun i h _=>by rw[hrow]at h;simp at h
 rw[hr,yw hz,Bool.or_comm]
 simp
theorem BR(h:jP ts.length x=false)(hk:x.kind=3)(ht:x.table=(k:Int))(hkt:k<ts.length):dw ts x=lQ ts[k].af x:=by
 have hh:=Ad h (.inr (.inr hk))
 have e1:(x.kind == 1)=false:=by rw[hk];rfl
 have e2:(x.kind == 2)=false:=by rw[hk];rfl
 have ek:keyOf x=x.key:=by unfold keyOf;rw[e1,if_neg (by decide)]
 have hinv:bu ts x=fC x:=by
  unfold bu
  rw[hh,e1,e2,ht]
  rfl
 unfold dw lQ iD
 rw[hinv,e2,ht,bV hkt,ek]
 simp only[Bool.false_and,Bool.or_false]
 split
 ·rfl
 rename_i hb
 split
 ·rfl
 rename_i hz
 have hz:(x.key.kind == 0)=false:=by simpa using hz
 have hrow:x.row=[]:=by
  unfold fC at hb
  simp only[Bool.not_eq_true,Bool.or_eq_false_iff]at hb
  have:=hb.1.1.1
  have:¬ 0<x.row.length:=by simpa using this
  exact List.eq_nil_of_length_eq_zero omA
 have hr:pb (fK ts[k].af x.row)=true:=aS fun i h _=>by rw[hrow]at h;simp at h
 rw[hr,yw hz]
 simp
end
end Go.Proofs.YtebippoohpnjkaaGreat
