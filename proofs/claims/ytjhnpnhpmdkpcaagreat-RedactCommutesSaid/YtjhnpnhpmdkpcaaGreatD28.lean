/-
  Contracts and plain laws of this seat, part 28.
-/
import Derived.Test.YtjhnpnhpmdkpcaaGreatD17
set_option linter.unusedVariables false
set_option linter.unusedSimpArgs false
set_option maxRecDepth 100000
set_option maxHeartbeats 16000000
namespace Go.Proofs.YtjhnpnhpmdkpcaaGreat
open Go.RowKit
theorem du{P:Prop}(h:P:=by simpa using hk):P:=h
theorem jQ{x y:Val}(hx:bL x=true)(hy:bL y=true)(h:aT x y=0):x=y:=by
 rw[rU,jR hx,jR hy]at h
 exact CG h
def gm(r:aS):Int:=r.2.1.headD 0
structure gD (ae:List Col) (l:List aS):Prop where
 len:l.length≤64
 rcd:∀r∈l,gB ae r.1 r.2.1 r.2.2
 asc:l.Pairwise (fun a b=>aT (aG a) (aG b)<0)
 own:l.Pairwise (fun a b=>gm a≠gm b)
structure POk (ts:List Tab) (pl:List (List aS)):Prop where
 len:pl.length=ts.length
 tab:∀i (h:i<pl.length) (h':i<ts.length),gD ts[i].ae pl[i]
theorem GG{l:List aS}(h:∀k (hk:k<l.length) (h0:0<k),aT (aG (l[k-1]' omA)) (aG l[k])<0):l.Pairwise (fun a b=>aT (aG a) (aG b)<0):=by
 rw[List.pairwise_iff_getElem]
 intro i j hi hj hij
 obtain⟨d,rfl⟩:∃d,j=i+1+d:=⟨j-(i+1),by omega⟩
 clear hij
 induction d with
 | zero=>exact h (i+1) hj omA
 | succ d ih =>
   have h1:=ih omA
   have h2:=h (i+1+(d+1)) hj omA
   have e:l[i+1+(d+1)-1]' omA=l[i+1+d]' omA:=by congr 1
   rw[e]at h2
   exact bH.DN h1 omA
theorem AL{α:Type}{p:α→Bool}:∀ {l:List α}{y:α},y∈l.takeWhile p→p y=true
 | [],_,h=>by cases h
 | a::l,y,h=>by
   rw[List.takeWhile_cons]at h
   split at h
   ·rename_i ha
    rcases List.mem_cons.1 h with rfl|h1
    ·exact ha
    ·exact AL h1
   ·cases h
theorem RTabOk.pure{ae:List Col}{recs:List Rcd}(h:RTabOk ae recs):gD ae (recs.map aP):=by
 refine⟨by simpa using h.len,fun r hr =>?_,GG fun k hk h0 =>?_,?_⟩
 ·obtain⟨x,hx,rfl⟩:=List.mem_map.1 hr
  obtain⟨j,hj,rfl⟩:=List.getElem_of_mem hx
  exact(h.at_ j hj).ok
 ·have hk':k<recs.length:=by simpa using hk
  rw[List.getElem_map,List.getElem_map]
  exact(h.at_ k hk').asc h0
 ·rw[List.pairwise_iff_getElem]
  intro i j hi hj hij
  rw[List.getElem_map,List.getElem_map]
  have hj':j<recs.length:=by simpa using hj
  exact(h.at_ j hj').own i hij
theorem gD.back{ae:List Col}{recs:List Rcd}(h:gD ae (recs.map aP)):RTabOk ae recs:=by
 refine⟨by simpa using h.len,fun k hk=>⟨h.rcd (aP recs[k]) (List.mem_map_of_mem (lgm hk)),fun h0 =>?_,fun j hj =>?_⟩⟩
 ·have h1:=List.pairwise_iff_getElem.1 h.asc (k-1) k smA du omA
  rw[List.getElem_map,List.getElem_map]at h1
  exact h1
 ·have h1:=List.pairwise_iff_getElem.1 h.own j k smA du hj
  rw[List.getElem_map,List.getElem_map]at h1
  exact h1
theorem bS.pure{ts:List Tab}{rt:List RTab}(h:bS ts rt):POk ts (rt.map aB):=
 ⟨by simpa using h.len,fun i hi hi'=>by rw[List.getElem_map];exact(h.tab i (by simpa using hi) hi').pure⟩
theorem POk.back{ts:List Tab}{rt:List RTab}(hok:aW ts)(h:POk ts (rt.map aB)):bS ts rt:=
 ⟨hok,by simpa using h.len,fun i hi hi'=>by have h1:=h.tab i (by simpa using hi) hi';rw[List.getElem_map]at h1;exact h1.back⟩
theorem POk.zero(ts:List Tab):POk ts (List.replicate ts.length []):=
 ⟨by simp,fun i hi hi'=>by rw[List.getElem_replicate];exact⟨by simp,fun r hr=>(by cases hr),List.Pairwise.nil,List.Pairwise.nil⟩⟩
theorem gD.cut{ae:List Col}{l:List aS}(h:gD ae l)(j:Nat):gD ae (iH l j):=by
 have hs:(iH l j).Sublist l:=by
  have h1:(l.drop (j+1)).Sublist (l.drop j):=by rw[←List.drop_drop];exact List.drop_sublist _ _
  have h2:=(List.Sublist.refl (l.take j)).append h1
  rwa [List.take_append_drop]at h2
 exact⟨Nat.le_trans hs.length_le h.len,fun r hr=>h.rcd r (hs.subset hr),h.asc.sublist hs,h.own.sublist hs⟩
theorem AP(l:List aS)(r:aS):(mO l r).Perm (r::l):=by
 unfold mO
 have h1:= @List.perm_middle _ r (l.take (iq l r)) (l.drop (iq l r))
 rw[List.take_append_drop]at h1
 simpa using h1
theorem Iu{l:List aS}(h:l.Pairwise (fun a b=>aT (aG a) (aG b)<0)){r:aS}(hne:∀y∈l,aT (aG y) (aG r)≠0):(mO l r).Pairwise (fun a b=>aT (aG a) (aG b)<0):=by
 have hlt:∀y∈l.take (iq l r),aT (aG y) (aG r)<0:=by
  intro y hy
  have e:l.take (iq l r)=l.takeWhile fun y=>decide (aT (aG y) (aG r)<0):=by
   conv=>lhs;arg 2;rw[←List.takeWhile_append_dropWhile (p:=fun y=>decide (aT (aG y) (aG r)<0)) (l:=l)]
   exact List.take_left' rfl
  rw[e]at hy
  have h1:=AL hy
  simpa using h1
 have hge:∀y∈l.drop (iq l r),aT (aG r) (aG y)<0:=by
  have e:l.drop (iq l r)=l.dropWhile fun y=>decide (aT (aG y) (aG r)<0):=by
   conv=>lhs;arg 2;rw[←List.takeWhile_append_dropWhile (p:=fun y=>decide (aT (aG y) (aG r)<0)) (l:=l)]
   exact List.drop_left' rfl
  have hd:(l.drop (iq l r)).Pairwise (fun a b=>aT (aG a) (aG b)<0):=h.sublist (List.drop_sublist _ _)
  have hm:∀y∈l.drop (iq l r),y∈l:=fun y hy=>List.mem_of_mem_drop hy
  cases hc:l.drop (iq l r) with
  | nil=>intro y hy;cases hy
  | cons z zs =>
    have hz:¬ aT (aG z) (aG r)<0:=by
     have h1:(l.dropWhile fun y=>decide (aT (aG y) (aG r)<0)).head?=some z:=by rw[←e,hc];rfl
     have h2:=List.head?_dropWhile_not (fun y=>decide (aT (aG y) (aG r)<0)) l
     rw[h1]at h2
     simpa using h2
    rw[hc]at hd hm
    have hz0:=hne z (hm z spA)
    have ha:=bH.oM (aG z) (aG r)
    intro y hy
    rcases List.mem_cons.1 hy with rfl|hy
    ·omega
    ·have h3:=(List.pairwise_cons.1 hd).1 y hy
     have h4:aT (aG r) (aG z)<0:=by omega
     exact bH.DN h4 omA
 unfold mO
 rw[List.append_assoc]
 refine List.pairwise_append.2 ⟨h.sublist (List.take_sublist _ _),List.pairwise_append.2 ⟨List.pairwise_singleton _ _,h.sublist (List.drop_sublist _ _),fun a ha b hb =>?_⟩,fun a ha b hb =>?_⟩
 ·rw[List.mem_singleton.1 ha];exact hge b hb
 ·rcases List.mem_append.1 hb with h1|h1
  ·rw[List.mem_singleton.1 h1];exact hlt a ha
  ·exact bH.DN (hlt a ha) (by have:=hge b h1;omega)
theorem gD.ins{ae:List Col}{l:List aS}(h:gD ae l)(hl:l.length<64){r:aS}(hr:gB ae r.1 r.2.1 r.2.2)(hne:∀y∈l,aT (aG y) (aG r)≠0)(hown:∀y∈l,gm y≠gm r):gD ae (mO l r):=by
 have hp:=AP l r
 refine⟨by rw[hp.length_eq,List.length_cons];omega,fun y hy =>?_,Iu h.asc hne,?_⟩
 ·rcases List.mem_cons.1 (hp.mem_iff.1 hy) with rfl|h1
  ·exact hr
  ·exact h.rcd y h1
 ·refine(List.Perm.pairwise_iff (fun {a b} (h:gm a≠gm b)=>Ne.symm h) hp).2 (List.pairwise_cons.2 ⟨fun y hy=>(hown y hy).symm,h.own⟩)
theorem gD.upd{ae:List Col}{l:List aS}(h:gD ae l)(j:Nat){x:Chg}{c:Nat}(hx:x.column=(c:Int))(hc0:0<c)(hc:c<ae.length)(hv:bL x.val=true)(ht:bR x.val ae[c].ty=true)(hs:az x.seq 1 1073741824=true)(hlast:∀r∈l,∀s∈r.2.1,s≤x.seq):gD ae (updP l j x):=by
 unfold updP
 split
 ·rename_i r hr
  have hm:=List.mem_of_getElem? hr
  obtain⟨hj,rfl⟩:=List.getElem?_eq_some_iff.1 hr
  have h0:=h.rcd _ hm
  rw[hx,Int.toNat_natCast]
  have hP:∀(a:aS),aG (a.1.set c x.val,a.2.1.set c x.seq,a.2.2)=aG a:=by
   rintro⟨a,b,d⟩
   unfold aG
   cases a with
   | nil=>rfl
   | cons u us=>rw[show c=(c-1)+1 by omega];rfl
  have hQ:∀(a:aS),gm (a.1.set c x.val,a.2.1.set c x.seq,a.2.2)=gm a:=by
   rintro⟨a,b,d⟩
   unfold gm
   cases b with
   | nil=>rfl
   | cons u us=>rw[show c=(c-1)+1 by omega];rfl
  refine⟨by simpa using h.len,fun y hy =>?_,?_,?_⟩
  ·rcases List.mem_or_eq_of_mem_set hy with h1|rfl
   ·exact h.rcd y h1
   ·refine⟨by simpa using h0.len,by simpa using h0.uL,h0.day,fun i hi =>?_,fun hk =>?_⟩
    ·have hci:=h0.cell i hi
     refine⟨fun hl =>?_,fun hl hk =>?_,fun hl =>?_,fun hl hl0 =>?_⟩
     ·rw[List.getElem_set]
      split
      ·exact hv
      ·exact hci.val (by simpa using hl)
     ·rw[List.getElem_set]
      split
      ·rename_i he
       subst he
       exact ht
      ·exact hci.typ (by simpa using hl) hk
     ·rw[List.getElem_set]
      split
      ·exact hs
      ·exact hci.pos (by simpa using hl)
     ·rw[List.getElem_set,List.getElem_set,if_neg omA]
      have hl':i<l[j].2.1.length:=by simpa using hl
      have hl0':0<l[j].2.1.length:=by simpa using hl0
      split
      ·exact hlast _ (lgm hj) _ (lgm hl0')
      ·exact hci.asc hl' hl0'
    ·rw[List.getElem_set,if_neg omA]
     exact h0.key du
  ·rw[List.pairwise_iff_getElem]
   intro a b ha hb hab
   have h1:=List.pairwise_iff_getElem.1 h.asc a b (by simpa using ha) (by simpa using hb) hab
   rw[List.getElem_set,List.getElem_set]
   split
   ·rename_i e;subst e;rw[hP,if_neg omA];exact h1
   ·split
    ·rename_i e;subst e;rw[hP];exact h1
    ·exact h1
  ·rw[List.pairwise_iff_getElem]
   intro a b ha hb hab
   have h1:=List.pairwise_iff_getElem.1 h.own a b (by simpa using ha) (by simpa using hb) hab
   rw[List.getElem_set,List.getElem_set]
   split
   ·rename_i e;subst e;rw[hQ,if_neg omA];exact h1
   ·split
    ·rename_i e;subst e;rw[hQ];exact h1
    ·exact h1
 ·exact h
theorem Ev{α:Type}{p:α→Bool}{l:List α}(h:firstAt p l<0):∀y∈l,p y=false:=by
 unfold firstAt at h
 split at h
 ·omega
 ·rename_i hn
  intro y hy
  rw[List.findIdx?_eq_none_iff]at hn
  exact hn y hy
structure IC (ts:List Tab) (x:Chg) (k:Nat) (h:k<ts.length):Prop where
 len:x.row.length=ts[k].ae.length
 vals:∀v∈x.row,bL v=true
 typ:fE ts[k].ae x.row
 day:az x.day 0 1048576=true
 key:(keyOf x).kind≠0
structure Qf (ts:List Tab) (x:Chg) (k c:Nat) (h:k<ts.length):Prop where
 col:x.column=(c:Int)
 lt:c<ts[k].ae.length
 pos:0<c
 val:bL x.val=true
 typ:bR x.val ts[k].ae[c].ty=true
theorem gH{ts:List Tab}{x:Chg}(h:aZ ts x=0):bn ts x=false∧(keyOf x).kind≠0∧fE (bV ts x.table) x.row∧gT (bV ts x.table) x=false∧(x.kind == 2&&pb (di (bV ts x.table) x.column))=false:=by
 unfold aZ at h
 split at h
 ·omega
 ·rename_i h1
  split at h
  ·omega
  ·rename_i h2
   split at h
   ·omega
   ·rename_i h3
    split at h
    ·omega
    ·rename_i h4
     split at h
     ·omega
     ·rename_i h5
      exact⟨by simpa using h1,by simpa using h2,jH.1 (by simpa using h3),by simpa using h4,by simpa using h5⟩
theorem nD{ts:List Tab}{x:Chg}(h:aZ ts x=0)(hk1:x.kind=1){k:Nat}(hin:jU ts x k):IC ts x k hin.lt:=by
 obtain⟨h1,h2,h3,h4,h5⟩:=gH h
 have hlt:=hin.lt
 unfold bn at h1
 rw[Bool.or_eq_false_iff]at h1
 obtain⟨hh,hb⟩:=h1
 have e1:(x.kind == 1)=true:=by simpa using hk1
 rw[e1,if_pos rfl]at hb
 unfold dI at hh
 unfold dC at hb
 simp only[Bool.or_eq_false_iff,Bool.not_eq_false']at hh hb
 have hr:=hb.2
 unfold qR at hr
 rw[Bool.and_eq_true,List.all_eq_true]at hr
 rw[hin.tab,cB hlt]at h3
 refine⟨by rw[hin.ins hk1,cB hlt],hr.2,h3,hh.1.2,h2⟩
theorem nC{ts:List Tab}{x:Chg}(h:aZ ts x=0)(hk2:x.kind=2){k:Nat}(hin:jU ts x k):∃c,Qf ts x k c hin.lt:=by
 obtain⟨h1,h2,h3,h4,h5⟩:=gH h
 have hlt:=hin.lt
 obtain⟨c,hc,hcl⟩:=hin.upd hk2
 rw[cB hlt]at hcl
 unfold bn at h1
 rw[Bool.or_eq_false_iff]at h1
 obtain⟨hh,hb⟩:=h1
 have e1:(x.kind == 1)=false:=by rw[hk2];rfl
 have e2:(x.kind == 2)=true:=by rw[hk2];rfl
 rw[e1,if_neg (by decide),e2,if_pos rfl]at hb
 unfold dG at hb
 simp only[Bool.or_eq_false_iff,Bool.not_eq_false']at hb
 unfold gT at h4
 rw[e2,Bool.true_and,Bool.or_eq_false_iff,hin.tab,cB hlt,hc,ll hcl]at h4
 rw[e2,Bool.true_and,hin.tab,cB hlt,hc]at h5
 have h6:¬ di ts[k].ae (c:Int):=fun hf=>by rw[aY hf]at h5;cases h5
 refine⟨c,hc,hcl,?_,hb.2,by simpa using h4.2⟩
 rcases Nat.eq_zero_or_pos c with rfl|h0
 ·exact absurd (.inl rfl) h6
 ·exact h0
theorem Ri{ts:List Tab}{x:Chg}{k:Nat}(hin:jU ts x k)(hlt:k<ts.length)(hk1:x.kind=1)(hi:IC ts x k hlt):gB ts[k].ae (dN x).1 (dN x).2.1 (dN x).2.2:=by
 refine⟨hi.len,by simpa[dN]using hi.len,hi.day,fun i hic=>⟨fun h=>hi.vals _ (lgm h),fun h hc=>hi.typ i h hc,fun h =>?_,fun h h0 =>?_⟩,fun h =>?_⟩
 ·simp only[dN,List.getElem_replicate];exact hin.seq
 ·simp only[dN,List.getElem_replicate];exact Int.le_refl _
 ·have hk:=hi.key
  unfold keyOf at hk
  rw[if_pos (by simpa using hk1)]at hk
  have h0:0<x.row.length:=h
  have e:∀(l:List Val) (h:0<l.length),l.headD ⟨0,0,⟨#[]⟩⟩=l[0]:=fun l h=>by
   cases l with
   | nil=>simp at h
   | cons a t=>rfl
  rw[e _ h0]at hk
  exact hk
theorem nZ{x:Chg}(hk:x.kind=1):keyOf x=aG (dN x):=by
 unfold keyOf aG dN
 rw[if_pos du]
structure aU (l:List aS):Prop where
 row:∀r∈l,0<r.1.length
 val:∀r∈l,bL (aG r)=true
 asc:l.Pairwise (fun a b=>aT (aG a) (aG b)<0)
theorem Gi{r:aS}(h:0<r.1.length):aG r=r.1[0]:=by
 obtain⟨a,b⟩:=r
 cases a with
 | nil=>simp at h
 | cons u us=>rfl
theorem gD.keys{ae:List Col}{l:List aS}(h:gD ae l)(h0:0<ae.length):aU l:=
 ⟨fun r hr=>by rw[(h.rcd r hr).len];exact h0,fun r hr=>by
  have hl:0<r.1.length:=by rw[(h.rcd r hr).len];exact h0
  rw[Gi hl]
  exact((h.rcd r hr).cell 0 h0).val hl,h.asc⟩
def dB(l:List aS)(key:Val):Nat:=(l.takeWhile fun y=>decide (aT (aG y) key<0)).length
def dF(l:List aS)(key:Val):Bool:=match l[dB l key]? with
 | some r=>decide (aG r=key)
 | none=>false
theorem xR(l:List aS)(r:aS):iq l r=dB l (aG r):=rfl
theorem C9{α:Type}{p:α→Bool}:∀ {l:List α}{i:Nat}(hi:i≤l.length),(∀j (h:j<l.length),j<i→p l[j]=true)→(∀h:i<l.length,p l[i]=false)→(l.takeWhile p).length=i
 | [],i,hi,_,_=>by simp at hi;simp[hi]
 | a::l,0,_,_,h2=>by
   have h:=h2 spA
   rw[List.takeWhile_cons,if_neg (by simpa using h)]
   rfl
 | a::l,i + 1,hi,h1,h2=>by
   have h:=h1 0 spA omA
   rw[List.takeWhile_cons,if_pos (by simpa using h),List.length_cons,C9 (l:=l) (i:=i) (by simpa using hi) (fun j hj hji=>by have:=h1 (j+1) (by simpa using hj) omA;simpa using this) (fun h=>by have:=h2 (by simpa using h);simpa using this)]
theorem qC{l:List aS}{key:Val}{i:Nat}(hi:i≤l.length)(hlo:∀j (h:j<l.length),j<i→0<aT key (aG l[j]))(hhi:∀h:i<l.length,aT key (aG l[i])≤0):dB l key=i:=by
 unfold dB
 refine C9 hi (fun j h hji =>?_) (fun h =>?_)
 ·have h1:=hlo j h hji
  have h2:=bH.oM key (aG l[j])
  exact decide_eq_true omA
 ·have h1:=hhi h
  have h2:=bH.oM key (aG l[i])
  exact decide_eq_false omA
theorem aU.mono{l:List aS}(h:aU l){key:Val}{i j:Nat}(hij:i<j)(hj:j<l.length)(hc:aT key (aG (l[i]' omA))≤0):aT key (aG l[j])<0:=by
 have h1:=List.pairwise_iff_getElem.1 h.asc i j omA hj hij
 have h2:=bH.oM key (aG (l[i]' omA))
 have h3:=bH.trans (aG l[j]) (aG (l[i]' omA)) key
 have h4:=bH.oM (aG (l[i]' omA)) (aG l[j])
 have h5:=bH.oM key (aG l[j])
 rcases Int.lt_or_le (aT key (aG l[j])) 0 with h6|h6
 ·exact h6
 ·have h7:=bH.DN h1 (z:=key) omA
  omega
theorem iZ{l:List aS}(h:aU l){key:Val}(hv:bL key=true){i:Nat}(hp:dB l key=i):dF l key=true ↔ ∃hi:i<l.length,aT key (aG l[i])=0:=by
 unfold dF
 rw[hp]
 constructor
 ·intro hf
  rcases Nat.lt_or_ge i l.length with hi|hi
  ·rw[List.getElem?_eq_getElem hi]at hf
   have e:aG l[i]=key:=by simpa using hf
   exact⟨hi,by rw[e];exact bH.refl key⟩
  ·rw[List.getElem?_eq_none hi]at hf
   cases hf
 ·rintro⟨hi,hc⟩
  rw[List.getElem?_eq_getElem hi]
  exact decide_eq_true (jQ hv (h.val _ (lgm hi)) hc).symm
theorem qK{r:aS}{key:Val}(h:0<r.1.length):r.1.head?=some key↔aG r=key:=by
 obtain⟨a,b⟩:=r
 cases a with
 | nil=>simp at h
 | cons u us=>simp[aG]
theorem j6{l:List aS}(h:aU l){key:Val}(hv:bL key=true)(hk:key.kind≠0)(hf:dF l key=true):eP l key=(dB l key:Int):=by
 obtain⟨hi,hc⟩:=(iZ h hv rfl).1 hf
 unfold eP
 rw[if_pos (by rw[hv];simpa using hk)]
 refine yU hi ?_ fun j hj hji =>?_
 ·have e:=jQ hv (h.val _ (lgm hi)) hc
  exact decide_eq_true ((qK (h.row _ (lgm hi))).2 e.symm)
 ·rw[decide_eq_false_iff_not,qK (h.row _ (lgm hj))]
  intro e
  have h1:=List.pairwise_iff_getElem.1 h.asc j (dB l key) hj hi hji
  rw[e]at h1
  omega
theorem jO{l:List aS}(h:aU l){key:Val}(hv:bL key=true)(hf:dF l key=false):eP l key<0:=by
 rcases Int.lt_or_le (eP l key) 0 with h1|h1
 ·exact h1
 exfalso
 unfold eP at h1
 split at h1
 ·rename_i hc
  obtain⟨m,hm,he,hp⟩:=wE h1
  have e:aG l[m]=key:=(qK (h.row _ (lgm hm))).1 (by simpa using hp)
  have hpl:dB l key=m:=qC omA (fun j hj hji=>by
   have h2:=List.pairwise_iff_getElem.1 h.asc j m hj hm hji
   rw[e]at h2
   have h3:=bH.oM key (aG l[j])
   omega) (fun _=>by rw[e,bH.refl];exact Int.le_refl _)
  have h4:=(iZ h hv hpl).2 ⟨hm,by rw[e];exact bH.refl key⟩
  rw[h4]at hf
  cases hf
 ·omega
theorem mJ{l:List aS}(h:aU l){x:Chg}(hk1:x.kind=1)(hv:bL (keyOf x)=true)(hf:dF l (keyOf x)=false)(hl:l.length<64):bC l x=l.take (dB l (keyOf x))++dN x::l.drop (dB l (keyOf x)):=by
 rw[qF hk1 (jO h hv hf) omA]
 unfold mO
 rw[xR,←nZ hk1,List.append_assoc]
 rfl
theorem jh{l:List aS}(h:aU l){x:Chg}(hk1:x.kind=1)(hv:bL (keyOf x)=true)(hf:dF l (keyOf x)=false)(hl:64≤l.length):bC l x=l:=xU hk1 (jO h hv hf) hl
theorem xz{α:Type}{l:List α}{i:Nat}(hi:i<l.length)(y:α):l.set i y=l.take i++y::l.drop (i+1):=by
 rw[List.set_eq_take_append_cons_drop,if_pos hi]
theorem mI{l:List aS}(h:aU l){x:Chg}(hk1:x.kind=1)(hv:bL (keyOf x)=true)(hkk:(keyOf x).kind≠0)(hf:dF l (keyOf x)=true):bC l x=l.set (dB l (keyOf x)) (dN x):=by
 rw[qE hk1 (j6 h hv hkk hf)]
 obtain⟨i,hie⟩:∃i,dB l (keyOf x)=i:=⟨_,rfl⟩
 obtain⟨hi,hc⟩:=(iZ h hv hie).1 hf
 rw[hie]
 have hlen:(l.take i).length=i:=by rw[List.length_take];omega
 have hp:iq (iH l i) (dN x)=i:=by
  rw[xR,←nZ hk1]
  refine qC (by unfold iH;simp;omega) (fun j hj hji =>?_) (fun hj =>?_)
  ·have hjl:j<l.length:=by omega
   have e0:(iH l i)[j]?=l[j]?:= by
    unfold iH
    rw[List.getElem?_append_left (by rw[hlen];exact hji),List.getElem?_take_of_lt hji]
   rw[List.getElem?_eq_getElem hj,List.getElem?_eq_getElem hjl]at e0
   have e1:=Option.some.inj e0
   rw[e1]
   have h2:=List.pairwise_iff_getElem.1 h.asc j i hjl hi hji
   have h3:=bH.oM (aG l[j]) (aG l[i])
   have h4:keyOf x=aG l[i]:=by
    have:=jQ hv (h.val _ (lgm hi)) hc
    exact this
   rw[h4]
   omega
  ·have hjl:i+1<l.length:=by unfold iH at hj;simp at hj;omega
   have e0:(iH l i)[i]?=l[i+1]?:= by
    unfold iH
    rw[List.getElem?_append_right (by rw[hlen];exact Nat.le_refl _),hlen,List.getElem?_drop]
    congr 1
    omega
   rw[List.getElem?_eq_getElem hj,List.getElem?_eq_getElem hjl]at e0
   have e1:=Option.some.inj e0
   rw[e1]
   exact Int.le_of_lt (h.mono (Nat.lt_succ_self i) hjl omA)
 unfold mO
 rw[hp,xz hi]
 have t1:(iH l i).take i=l.take i:=by unfold iH;exact List.take_left' hlen
 have t2:(iH l i).drop i=l.drop (i+1):=by unfold iH;exact List.drop_left' hlen
 rw[t1,t2,List.append_assoc]
 rfl
theorem nW{l:List aS}(h:aU l){x:Chg}(hk3:x.kind=3)(hv:bL (keyOf x)=true)(hkk:(keyOf x).kind≠0)(hf:dF l (keyOf x)=true):bC l x=iH l (dB l (keyOf x)):=qG omA omA (j6 h hv hkk hf)
theorem nV{l:List aS}(h:aU l){x:Chg}(hk2:x.kind=2)(hv:bL (keyOf x)=true)(hkk:(keyOf x).kind≠0)(hf:dF l (keyOf x)=true):bC l x=updP l (dB l (keyOf x)) x:=qD hk2 (j6 h hv hkk hf)
theorem iM{l:List aS}(h:aU l){x:Chg}(hk1:x.kind≠1)(hv:bL (keyOf x)=true)(hf:dF l (keyOf x)=false):bC l x=l:=jG hk1 (jO h hv hf)
theorem lI{ts:List Tab}{x:Chg}(h:aZ ts x=0)(hok:aW ts):bL (keyOf x)=true∧(keyOf x).kind≠0:=by
 obtain⟨h1,h2,_,_,_⟩:=gH h
 refine⟨?_,h2⟩
 obtain⟨k,hin⟩:=fP h
 rcases hin.kind with hk1|hk2|hk3
 ·have hi:=nD h hk1 hin
  rw[nZ hk1,kY (by rw[hi.len];exact(hok.ae hin.lt).1)]
  exact hi.vals _ (lgm _)
 ·unfold bn at h1
  rw[Bool.or_eq_false_iff]at h1
  have hb:=h1.2
  have e1:(x.kind == 1)=false:=by rw[hk2];rfl
  have e2:(x.kind == 2)=true:=by rw[hk2];rfl
  rw[e1,if_neg (by decide),e2,if_pos rfl]at hb
  unfold dG at hb
  simp only[Bool.or_eq_false_iff,Bool.not_eq_false']at hb
  unfold keyOf
  rw[if_neg (by rw[e1];decide)]
  exact hb.1.1.2
 ·unfold bn at h1
  rw[Bool.or_eq_false_iff]at h1
  have hb:=h1.2
  have e1:(x.kind == 1)=false:=by rw[hk3];rfl
  have e2:(x.kind == 2)=false:=by rw[hk3];rfl
  rw[e1,if_neg (by decide),e2,if_neg (by decide)]at hb
  unfold dP at hb
  simp only[Bool.or_eq_false_iff,Bool.not_eq_false']at hb
  unfold keyOf
  rw[if_neg (by rw[e1];decide)]
  exact hb.2
theorem aU.sub{l l':List aS}(h:aU l)(hs:l'.Sublist l):aU l':=⟨fun r hr=>h.row r (hs.subset hr),fun r hr=>h.val r (hs.subset hr),h.asc.sublist hs⟩
theorem Ez(l:List aS)(j:Nat):(iH l j).Sublist l:=by
 have h1:(l.drop (j+1)).Sublist (l.drop j):=by rw[←List.drop_drop];exact List.drop_sublist _ _
 have h2:=(List.Sublist.refl (l.take j)).append h1
 rwa [List.take_append_drop]at h2
theorem KH{x:Chg}{c:Nat}(hx:x.column=(c:Int))(hc:0<c)(a:aS):aG (a.1.set x.column.toNat x.val,a.2.1.set x.column.toNat x.seq,a.2.2)=aG a:=by
 obtain⟨a,b,d⟩:=a
 rw[hx,Int.toNat_natCast]
 unfold aG
 cases a with
 | nil=>rfl
 | cons u us=>rw[show c=(c-1)+1 by omega];rfl
theorem aU.upd{l:List aS}(h:aU l)(j:Nat){x:Chg}{c:Nat}(hx:x.column=(c:Int))(hc:0<c):aU (updP l j x):=by
 unfold updP
 split
 ·rename_i r hr
  obtain⟨hj,rfl⟩:=List.getElem?_eq_some_iff.1 hr
  have hK:=KH hx hc
  refine⟨fun y hy =>?_,fun y hy =>?_,?_⟩
  ·rcases List.mem_or_eq_of_mem_set hy with h1|rfl
   ·exact h.row y h1
   ·simpa using h.row _ (lgm hj)
  ·rcases List.mem_or_eq_of_mem_set hy with h1|rfl
   ·exact h.val y h1
   ·rw[hK];exact h.val _ (lgm hj)
  ·rw[List.pairwise_iff_getElem]
   intro a b ha hb hab
   have h1:=List.pairwise_iff_getElem.1 h.asc a b (by simpa using ha) (by simpa using hb) hab
   rw[List.getElem_set,List.getElem_set]
   split
   ·rename_i e;subst e;rw[hK,if_neg omA];exact h1
   ·split
    ·rename_i e;subst e;rw[hK];exact h1
    ·exact h1
 ·exact h
theorem aU.ins{l:List aS}(h:aU l){r:aS}(h0:0<r.1.length)(hv:bL (aG r)=true)(hne:∀y∈l,aT (aG y) (aG r)≠0):aU (mO l r):=by
 have hp:=AP l r
 refine⟨fun y hy =>?_,fun y hy =>?_,Iu h.asc hne⟩
 ·rcases List.mem_cons.1 (hp.mem_iff.1 hy) with rfl|h1
  ·exact h0
  ·exact h.row y h1
 ·rcases List.mem_cons.1 (hp.mem_iff.1 hy) with rfl|h1
  ·exact hv
  ·exact h.val y h1
theorem aU.nX{l:List aS}(h:aU l){ts:List Tab}{x:Chg}(hf:aZ ts x=0)(hok:aW ts):aU (bC l x):=by
 obtain⟨k,hin⟩:=fP hf
 obtain⟨hv,hk⟩:=lI hf hok
 have hpos:=(hok.ae hin.lt).1
 rcases hin.kind with hk1|hk2|hk3
 ·have hi:=nD hf hk1 hin
  have hr0:0<(dN x).1.length:=by show 0<x.row.length;rw[hi.len];exact hpos
  have hke:=nZ hk1
  have hne:∀l',aU l'→(∀y∈l',aG y≠keyOf x)→∀y∈l',aT (aG y) (aG (dN x))≠0:=fun l' h' hn y hy e=>hn y hy (jQ (h'.val y hy) hv (by rw[hke];exact e))
  cases hfd:dF l (keyOf x)
  ·rcases Nat.lt_or_ge l.length 64 with hl|hl
   ·rw[qF hk1 (jO h hv hfd) omA]
    refine h.ins hr0 (by rw[←hke];exact hv) (hne l h fun y hy e =>?_)
    have h1:=jO h hv hfd
    unfold eP at h1
    rw[if_pos (by rw[hv];simpa using hk)]at h1
    have h2:=Ev h1 y hy
    rw[decide_eq_false_iff_not]at h2
    exact h2 ((qK (h.row y hy)).2 e)
   ·rw[jh h hk1 hv hfd hl];exact h
  ·rw[qE hk1 (j6 h hv hk hfd)]
   have hs:=h.sub (Ez l (dB l (keyOf x)))
   refine hs.ins hr0 (by rw[←hke];exact hv) (hne _ hs fun y hy e =>?_)
   obtain⟨hi,hc⟩:=(iZ h hv rfl).1 hfd
   have e2:=jQ hv (h.val _ (lgm hi)) hc
   unfold iH at hy
   rcases List.mem_append.1 hy with h1|h1
   ·obtain⟨j,hj,rfl⟩:=List.getElem_of_mem h1
    rw[List.length_take]at hj
    rw[List.getElem_take]at e
    have h3:=List.pairwise_iff_getElem.1 h.asc j (dB l (keyOf x)) omA hi omA
    rw[e,←e2,bH.refl]at h3
    omega
   ·obtain⟨j,hj,rfl⟩:=List.getElem_of_mem h1
    rw[List.length_drop]at hj
    rw[List.getElem_drop]at e
    have h3:=List.pairwise_iff_getElem.1 h.asc (dB l (keyOf x)) (dB l (keyOf x)+1+j) hi omA omA
    rw[e,←e2,bH.refl]at h3
    omega
 ·obtain⟨c,hu⟩:=nC hf hk2 hin
  by_cases hz:eP l (keyOf x)<0
  ·rw[jG omA hz];exact h
  ·obtain⟨j,hj,he⟩:=kg (Int.not_lt.1 hz)
   rw[qD hk2 he]
   exact h.upd j hu.col hu.pos
 ·by_cases hz:eP l (keyOf x)<0
  ·rw[jG omA hz];exact h
  ·obtain⟨j,hj,he⟩:=kg (Int.not_lt.1 hz)
   rw[qG omA omA he]
   exact h.sub (Ez l j)
def lQ(pl:List (List aS)):Prop:= ∀l∈pl,aU l
theorem aU.nil:aU []:=⟨fun r hr=>(by cases hr),fun r hr=>(by cases hr),List.Pairwise.nil⟩
theorem lQ.zero(n:Nat):lQ (List.replicate n []):=fun l hl=>by rw[(List.mem_replicate.1 hl).2];exact aU.nil
theorem lQ.tab{pl:List (List aS)}(h:lQ pl)(k:Int):aU (tabP pl k):=by
 unfold tabP
 split
 ·rename_i l hl
  exact h l (List.mem_of_getElem? hl)
 ·exact aU.nil
theorem lQ.nX{pl:List (List aS)}(h:lQ pl){ts:List Tab}{x:Chg}(hf:aZ ts x=0)(hok:aW ts):lQ (aK pl x):=fun l hl=>by
 unfold aK at hl
 rcases List.mem_or_eq_of_mem_set hl with h1|rfl
 ·exact h l h1
 ·exact(h.tab _).nX hf hok
def kN(m:Nat)(x:Chg):Bool:=decide (x.seq<1)||(decide (1073741824<x.seq)||(decide (x.day<0)||(decide (1048576<x.day)||(decide (x.table<0)||decide ((m:Int)≤x.table)))))
noncomputable def jL(ae:List Col)(x:Chg):Int:=if dC ae.length x=true then 1 else if ((keyOf x).kind == 0)=true then 6 else if pb (fE ae x.row)=false then 5 else 0
noncomputable def mr(ae:List Col)(x:Chg):Int:=if dG ae.length x=true then 1 else if (x.key.kind == 0)=true then 6 else if (!bR x.val (lS ae x.column)||x.key.kind != lS ae 0)=true then 5 else if pb (di ae x.column)=true then 11 else 0
def mP(ae:List Col)(x:Chg):Int:=if dP x=true then 1 else if (x.key.kind == 0)=true then 6 else if (x.key.kind != lS ae 0)=true then 5 else 0
theorem oC{m:Nat}{x:Chg}:dI m x=(!az x.kind 1 3||kN m x):=by
 unfold dI kN az
 by_cases h1:1≤x.kind<;>by_cases h2:x.kind≤3<;>by_cases h3:1≤x.seq<;>by_cases h4:x.seq≤1073741824<;>by_cases h5:0≤x.day<;>by_cases h6:x.day≤1048576<;>by_cases h7:0≤x.table<;>by_cases h8:x.table≤(m:Int)-1<;>simp[h1,h2,h3,h4,h5,h6,h7,h8]<;>omega
theorem JE{ts:List Tab}{x:Chg}(h:kN ts.length x=true):aZ ts x=1:=by
 unfold aZ
 rw[if_pos]
 unfold bn
 rw[oC,h]
 simp
theorem JF{ts:List Tab}{x:Chg}(h1:x.kind≠1)(h2:x.kind≠2)(h3:x.kind≠3):aZ ts x=1:=by
 unfold aZ
 rw[if_pos]
 unfold bn
 rw[oC]
 have:az x.kind 1 3=false:=by
  unfold az
  by_cases h4:1≤x.kind<;>by_cases h5:x.kind≤3<;>simp[h4,h5]
  omega
 rw[this]
 simp
section
variable {ts:List Tab}{x:Chg}{k:Nat}
theorem Cr(h:kN ts.length x=false)(hk:x.kind=1∨x.kind=2∨x.kind=3):dI ts.length x=false:=by
 rw[oC,h]
 have:az x.kind 1 3=true:=by rcases hk with h|h|h<;>rw[h]<;>decide
 rw[this]
 rfl
theorem Em(h:kN ts.length x=false)(hk:x.kind=1)(ht:x.table=(k:Int))(hkt:k<ts.length)(h0:0<ts[k].ae.length):aZ ts x=jL ts[k].ae x:=by
 have hh:=Cr h (.inl hk)
 have e1:(x.kind == 1)=true:=by rw[hk];rfl
 have e2:(x.kind == 2)=false:=by rw[hk];rfl
 have hinv:bn ts x=dC ts[k].ae.length x:=by
  unfold bn
  rw[hh,e1,ht,cB hkt]
  rfl
 unfold aZ jL gT
 rw[hinv,e2,ht,cB hkt]
 simp only[Bool.false_and,Bool.or_false,Bool.false_eq_true,if_false]
 split
 ·rfl
 rename_i hb
 split
 ·rfl
 split
 ·rfl
 rename_i hr
 have hr:fE ts[k].ae x.row:=jH.1 (by simpa using hr)
 have hlen:x.row.length=ts[k].ae.length:=by
  unfold dC at hb
  simp only[Bool.not_eq_true,Bool.or_eq_false_iff]at hb
  have:=hb.1.2
  have:((x.row.length:Int)=(ts[k].ae.length:Int)):=by simpa using this
  omega
 have hl0:0<x.row.length:=by omega
 have hkey:keyOf x=x.row[0]:=by rw[nZ hk,kY hl0]
 have hty:=hr 0 hl0 h0
 rw[if_neg]
 rw[hkey,show (0:Int)=((0:Nat):Int) from rfl,ll h0,hty]
 decide
theorem Ag{v:Val}{t:Int}(h:(v.kind == 0)=false):(!bR v t)=(v.kind != t):=by
 unfold bR
 rw[h]
 simp[bne]
theorem El(h:kN ts.length x=false)(hk:x.kind=2)(ht:x.table=(k:Int))(hkt:k<ts.length):aZ ts x=mr ts[k].ae x:=by
 have hh:=Cr h (.inr (.inl hk))
 have e1:(x.kind == 1)=false:=by rw[hk];rfl
 have e2:(x.kind == 2)=true:=by rw[hk];rfl
 have ek:keyOf x=x.key:=by unfold keyOf;rw[e1,if_neg (by decide)]
 have hinv:bn ts x=dG ts[k].ae.length x:=by
  unfold bn
  rw[hh,e1,e2,ht,cB hkt]
  rfl
 unfold aZ mr gT
 rw[hinv,e2,ht,cB hkt,ek]
 simp only[Bool.true_and]
 split
 ·rfl
 rename_i hb
 split
 ·rfl
 rename_i hz
 have hz:(x.key.kind == 0)=false:=by simpa using hz
 have hrow:x.row=[]:=by
  unfold dG at hb
  simp only[Bool.not_eq_true,Bool.or_eq_false_iff]at hb
  have:=hb.1.1.1
  have:¬ 0<x.row.length:=by simpa using this
  exact List.eq_nil_of_length_eq_zero omA
 have hr:pb (fE ts[k].ae x.row)=true:=aY fun i h _=>by rw[hrow]at h;simp at h
 rw[hr,Ag hz,Bool.or_comm]
 simp
theorem En(h:kN ts.length x=false)(hk:x.kind=3)(ht:x.table=(k:Int))(hkt:k<ts.length):aZ ts x=mP ts[k].ae x:=by
 have hh:=Cr h (.inr (.inr hk))
 have e1:(x.kind == 1)=false:=by rw[hk];rfl
 have e2:(x.kind == 2)=false:=by rw[hk];rfl
 have ek:keyOf x=x.key:=by unfold keyOf;rw[e1,if_neg (by decide)]
 have hinv:bn ts x=dP x:=by
  unfold bn
  rw[hh,e1,e2,ht]
  rfl
 unfold aZ mP gT
 rw[hinv,e2,ht,cB hkt,ek]
 simp only[Bool.false_and,Bool.or_false]
 split
 ·rfl
 rename_i hb
 split
 ·rfl
 rename_i hz
 have hz:(x.key.kind == 0)=false:=by simpa using hz
 have hrow:x.row=[]:=by
  unfold dP at hb
  simp only[Bool.not_eq_true,Bool.or_eq_false_iff]at hb
  have:=hb.1.1.1
  have:¬ 0<x.row.length:=by simpa using this
  exact List.eq_nil_of_length_eq_zero omA
 have hr:pb (fE ts[k].ae x.row)=true:=aY fun i h _=>by rw[hrow]at h;simp at h
 rw[hr,Ag hz]
 simp
end
end Go.Proofs.YtjhnpnhpmdkpcaaGreat
