/-
  Contracts and plain laws of this seat, part 28.
-/
import Derived.Test.YtjidligipoldeaaGreatT17
set_option linter.unusedVariables false
set_option linter.unusedSimpArgs false
set_option maxRecDepth 100000
set_option maxHeartbeats 16000000
namespace Go.Proofs.YtjidligipoldeaaGreat
open Go.RowKit
theorem jJ{x y:Val}(hx:bT x=true)(hy:bT y=true)(h:aU x y=0):x=y:=by
 rw[rQ,qI hx,qI hy]at h
 exact BX h
def bH(r:aG):Int:=r.2.1.headD 0
structure iy (ae:List Col) (l:List aG):Prop where
 len:l.length≤64
 rcd:∀r∈l,kM ae r.1 r.2.1 r.2.2
 asc:l.Pairwise (fun a b=>aU (ay a) (ay b)<0)
 own:l.Pairwise (fun a b=>bH a≠bH b)
theorem Af{α:Type}{p:α→Bool}:∀ {l:List α}{y:α},y∈l.takeWhile p→p y=true
 | [],_,h=>by cases h
 | a::l,y,h=>by
   rw[List.takeWhile_cons]at h
   split at h
   ·rename_i ha
    rcases List.mem_cons.1 h with rfl|h1
    ·exact ha
    ·exact Af h1
   ·cases h
theorem iy.cut{ae:List Col}{l:List aG}(h:iy ae l)(j:Nat):iy ae (iL l j):=by
 have hs:(iL l j).Sublist l:=by
  have h1:(l.drop (j+1)).Sublist (l.drop j):=by rw[←List.drop_drop];exact List.drop_sublist _ _
  have h2:=(List.Sublist.refl (l.take j)).append h1
  rwa [List.take_append_drop]at h2
 exact⟨Nat.le_trans hs.length_le h.len,fun r hr=>h.rcd r (hs.subset hr),h.asc.sublist hs,h.own.sublist hs⟩
theorem Ai(l:List aG)(r:aG):(mK l r).Perm (r::l):=by
 unfold mK
 have h1:= @List.perm_middle _ r (l.take (gZ l r)) (l.drop (gZ l r))
 rw[List.take_append_drop]at h1
 simpa using h1
theorem G7{l:List aG}(h:l.Pairwise (fun a b=>aU (ay a) (ay b)<0)){r:aG}(hne:∀y∈l,aU (ay y) (ay r)≠0):(mK l r).Pairwise (fun a b=>aU (ay a) (ay b)<0):=by
 have hlt:∀y∈l.take (gZ l r),aU (ay y) (ay r)<0:=by
  intro y hy
  have e:l.take (gZ l r)=l.takeWhile fun y=>decide (aU (ay y) (ay r)<0):=by
   conv=>lhs;arg 2;rw[←List.takeWhile_append_dropWhile (p:=fun y=>decide (aU (ay y) (ay r)<0)) (l:=l)]
   exact List.take_left' rfl
  rw[e]at hy
  have h1:=Af hy
  simpa using h1
 have hge:∀y∈l.drop (gZ l r),aU (ay r) (ay y)<0:=by
  have e:l.drop (gZ l r)=l.dropWhile fun y=>decide (aU (ay y) (ay r)<0):=by
   conv=>lhs;arg 2;rw[←List.takeWhile_append_dropWhile (p:=fun y=>decide (aU (ay y) (ay r)<0)) (l:=l)]
   exact List.drop_left' rfl
  have hd:(l.drop (gZ l r)).Pairwise (fun a b=>aU (ay a) (ay b)<0):=h.sublist (List.drop_sublist _ _)
  have hm:∀y∈l.drop (gZ l r),y∈l:=fun y hy=>List.mem_of_mem_drop hy
  cases hc:l.drop (gZ l r) with
  | nil=>intro y hy;cases hy
  | cons z zs =>
    have hz:¬ aU (ay z) (ay r)<0:=by
     have h1:(l.dropWhile fun y=>decide (aU (ay y) (ay r)<0)).head?=some z:=by rw[←e,hc];rfl
     have h2:=List.head?_dropWhile_not (fun y=>decide (aU (ay y) (ay r)<0)) l
     rw[h1]at h2
     simpa using h2
    rw[hc]at hd hm
    have hz0:=hne z (hm z spA)
    have ha:=bI.oU (ay z) (ay r)
    intro y hy
    rcases List.mem_cons.1 hy with rfl|hy
    ·omega
    ·have h3:=(List.pairwise_cons.1 hd).1 y hy
     have h4:aU (ay r) (ay z)<0:=by omega
     exact bI.GG h4 omA
 unfold mK
 rw[List.append_assoc]
 refine List.pairwise_append.2 ⟨h.sublist (List.take_sublist _ _),List.pairwise_append.2 ⟨List.pairwise_singleton _ _,h.sublist (List.drop_sublist _ _),fun a ha b hb =>?_⟩,fun a ha b hb =>?_⟩
 ·rw[List.mem_singleton.1 ha];exact hge b hb
 ·rcases List.mem_append.1 hb with h1|h1
  ·rw[List.mem_singleton.1 h1];exact hlt a ha
  ·exact bI.GG (hlt a ha) (by have:=hge b h1;omega)
theorem iy.ins{ae:List Col}{l:List aG}(h:iy ae l)(hl:l.length<64){r:aG}(hr:kM ae r.1 r.2.1 r.2.2)(hne:∀y∈l,aU (ay y) (ay r)≠0)(hown:∀y∈l,bH y≠bH r):iy ae (mK l r):=by
 have hp:=Ai l r
 refine⟨by rw[hp.length_eq,List.length_cons];omega,fun y hy =>?_,G7 h.asc hne,?_⟩
 ·rcases List.mem_cons.1 (hp.mem_iff.1 hy) with rfl|h1
  ·exact hr
  ·exact h.rcd y h1
 ·refine(List.Perm.pairwise_iff (fun {a b} (h:bH a≠bH b)=>Ne.symm h) hp).2 (List.pairwise_cons.2 ⟨fun y hy=>(hown y hy).symm,h.own⟩)
theorem iy.upd{ae:List Col}{l:List aG}(h:iy ae l)(j:Nat){x:Chg}{c:Nat}(hx:x.column=(c:Int))(hc0:0<c)(hc:c<ae.length)(hv:bT x.val=true)(ht:dz x.val ae[c].ty=true)(hs:aB x.seq 1 1073741824=true)(hlast:∀r∈l,∀s∈r.2.1,s≤x.seq):iy ae (rU l j x):=by
 unfold rU
 split
 ·rename_i r hr
  have hm:=List.mem_of_getElem? hr
  obtain⟨hj,rfl⟩:=List.getElem?_eq_some_iff.1 hr
  have h0:=h.rcd _ hm
  rw[hx,Int.toNat_natCast]
  have hP:∀(a:aG),ay (a.1.set c x.val,a.2.1.set c x.seq,a.2.2)=ay a:=by
   rintro⟨a,b,d⟩
   unfold ay
   cases a with
   | nil=>rfl
   | cons u us=>rw[show c=(c-1)+1 by omega];rfl
  have hQ:∀(a:aG),bH (a.1.set c x.val,a.2.1.set c x.seq,a.2.2)=bH a:=by
   rintro⟨a,b,d⟩
   unfold bH
   cases b with
   | nil=>rfl
   | cons u us=>rw[show c=(c-1)+1 by omega];rfl
  refine⟨by simpa using h.len,fun y hy =>?_,?_,?_⟩
  ·rcases List.mem_or_eq_of_mem_set hy with h1|rfl
   ·exact h.rcd y h1
   ·refine⟨by simpa using h0.len,by simpa using h0.oO,h0.day,fun i hi =>?_,fun hk =>?_⟩
    ·have hci:=h0.cell i hi
     refine⟨fun hl =>?_,fun hl hk =>?_,fun hl =>?_,fun hl hl0 =>?_⟩
     ·rw[List.getElem_set]
      split
      ·exact hv
      ·exact hci.val (by simpa using hl)
     ·rw[List.getElem_set]
      split
      ·rename_i he
       subst he
       exact ht
      ·exact hci.typ (by simpa using hl) hk
     ·rw[List.getElem_set]
      split
      ·exact hs
      ·exact hci.pos (by simpa using hl)
     ·rw[List.getElem_set,List.getElem_set,if_neg omA]
      have hl':i<l[j].2.1.length:=by simpa using hl
      have hl0':0<l[j].2.1.length:=by simpa using hl0
      split
      ·exact hlast _ (lgm hj) _ (lgm hl0')
      ·exact hci.asc hl' hl0'
    ·rw[List.getElem_set,if_neg omA]
     exact h0.key (by simpa using hk)
  ·rw[List.pairwise_iff_getElem]
   intro a b ha hb hab
   have h1:=List.pairwise_iff_getElem.1 h.asc a b (by simpa using ha) (by simpa using hb) hab
   rw[List.getElem_set,List.getElem_set]
   split
   ·rename_i e;subst e;rw[hP,if_neg omA];exact h1
   ·split
    ·rename_i e;subst e;rw[hP];exact h1
    ·exact h1
  ·rw[List.pairwise_iff_getElem]
   intro a b ha hb hab
   have h1:=List.pairwise_iff_getElem.1 h.own a b (by simpa using ha) (by simpa using hb) hab
   rw[List.getElem_set,List.getElem_set]
   split
   ·rename_i e;subst e;rw[hQ,if_neg omA];exact h1
   ·split
    ·rename_i e;subst e;rw[hQ];exact h1
    ·exact h1
 ·exact h
theorem DF{α:Type}{p:α→Bool}{l:List α}(h:fI p l<0):∀y∈l,p y=false:=by
 unfold fI at h
 split at h
 ·omega
 ·rename_i hn
  intro y hy
  rw[List.findIdx?_eq_none_iff]at hn
  exact hn y hy
structure He (ts:List Tab) (x:Chg) (k:Nat) (h:k<ts.length):Prop where
 len:x.row.length=ts[k].ae.length
 vals:∀v∈x.row,bT v=true
 typ:fH ts[k].ae x.row
 day:aB x.day 0 1048576=true
 key:(keyOf x).kind≠0
structure Px (ts:List Tab) (x:Chg) (k c:Nat) (h:k<ts.length):Prop where
 col:x.column=(c:Int)
 lt:c<ts[k].ae.length
 pos:0<c
 val:bT x.val=true
 typ:dz x.val ts[k].ae[c].ty=true
theorem ma{ts:List Tab}{x:Chg}(h:aV ts x=0):bB ts x=false∧(keyOf x).kind≠0∧fH (bW ts x.table) x.row∧iw (bW ts x.table) x=false∧(x.kind == 2&&pb (dn (bW ts x.table) x.column))=false:=by
 unfold aV at h
 split at h
 ·omega
 ·rename_i h1
  split at h
  ·omega
  ·rename_i h2
   split at h
   ·omega
   ·rename_i h3
    split at h
    ·omega
    ·rename_i h4
     split at h
     ·omega
     ·rename_i h5
      exact⟨by simpa using h1,by simpa using h2,nY.1 (by simpa using h3),by simpa using h4,by simpa using h5⟩
theorem nA{ts:List Tab}{x:Chg}(h:aV ts x=0)(hk1:x.kind=1){k:Nat}(hin:jN ts x k):He ts x k hin.lt:=by
 obtain⟨h1,h2,h3,h4,h5⟩:=ma h
 have hlt:=hin.lt
 unfold bB at h1
 rw[Bool.or_eq_false_iff]at h1
 obtain⟨hh,hb⟩:=h1
 have e1:(x.kind == 1)=true:=by simpa using hk1
 rw[e1,if_pos rfl]at hb
 unfold eB at hh
 unfold dD at hb
 simp only[Bool.or_eq_false_iff,Bool.not_eq_false']at hh hb
 have hr:=hb.2
 unfold qN at hr
 rw[Bool.and_eq_true,List.all_eq_true]at hr
 rw[hin.tab,cB hlt]at h3
 refine⟨by rw[hin.ins hk1,cB hlt],hr.2,h3,hh.1.2,h2⟩
theorem ny{ts:List Tab}{x:Chg}(h:aV ts x=0)(hk2:x.kind=2){k:Nat}(hin:jN ts x k):∃c,Px ts x k c hin.lt:=by
 obtain⟨h1,h2,h3,h4,h5⟩:=ma h
 have hlt:=hin.lt
 obtain⟨c,hc,hcl⟩:=hin.upd hk2
 rw[cB hlt]at hcl
 unfold bB at h1
 rw[Bool.or_eq_false_iff]at h1
 obtain⟨hh,hb⟩:=h1
 have e1:(x.kind == 1)=false:=by rw[hk2];rfl
 have e2:(x.kind == 2)=true:=by rw[hk2];rfl
 rw[e1,if_neg (by decide),e2,if_pos rfl]at hb
 unfold dJ at hb
 simp only[Bool.or_eq_false_iff,Bool.not_eq_false']at hb
 unfold iw at h4
 rw[e2,Bool.true_and,Bool.or_eq_false_iff,hin.tab,cB hlt,hc,kW hcl]at h4
 rw[e2,Bool.true_and,hin.tab,cB hlt,hc]at h5
 have h6:¬ dn ts[k].ae (c:Int):=fun hf=>by rw[bV hf]at h5;cases h5
 refine⟨c,hc,hcl,?_,hb.2,by simpa using h4.2⟩
 rcases Nat.eq_zero_or_pos c with rfl|h0
 ·exact absurd (.inl rfl) h6
 ·exact h0
theorem QZ{ts:List Tab}{x:Chg}{k:Nat}(hin:jN ts x k)(hlt:k<ts.length)(hk1:x.kind=1)(hi:He ts x k hlt):kM ts[k].ae (dX x).1 (dX x).2.1 (dX x).2.2:=by
 refine⟨hi.len,by simpa[dX]using hi.len,hi.day,fun i hic=>⟨fun h=>hi.vals _ (lgm h),fun h hc=>hi.typ i h hc,fun h =>?_,fun h h0 =>?_⟩,fun h =>?_⟩
 ·simp only[dX,List.getElem_replicate];exact hin.seq
 ·simp only[dX,List.getElem_replicate];exact Int.le_refl _
 ·have hk:=hi.key
  unfold keyOf at hk
  rw[if_pos (by simpa using hk1)]at hk
  have h0:0<x.row.length:=h
  have e:∀(l:List Val) (h:0<l.length),l.headD ⟨0,0,⟨#[]⟩⟩=l[0]:=fun l h=>by
   cases l with
   | nil=>simp at h
   | cons a t=>rfl
  rw[e _ h0]at hk
  exact hk
theorem oh{x:Chg}(hk:x.kind=1):keyOf x=ay (dX x):=by
 unfold keyOf ay dX
 rw[if_pos (by simpa using hk)]
structure aT (l:List aG):Prop where
 row:∀r∈l,0<r.1.length
 val:∀r∈l,bT (ay r)=true
 asc:l.Pairwise (fun a b=>aU (ay a) (ay b)<0)
theorem Fz{r:aG}(h:0<r.1.length):ay r=r.1[0]:=by
 obtain⟨a,b⟩:=r
 cases a with
 | nil=>simp at h
 | cons u us=>rfl
theorem iy.keys{ae:List Col}{l:List aG}(h:iy ae l)(h0:0<ae.length):aT l:=
 ⟨fun r hr=>by rw[(h.rcd r hr).len];exact h0,fun r hr=>by
  have hl:0<r.1.length:=by rw[(h.rcd r hr).len];exact h0
  rw[Fz hl]
  exact((h.rcd r hr).cell 0 h0).val hl,h.asc⟩
def bQ(l:List aG)(key:Val):Nat:=(l.takeWhile fun y=>decide (aU (ay y) key<0)).length
def dC(l:List aG)(key:Val):Bool:=match l[bQ l key]? with
 | some r=>decide (ay r=key)
 | none=>false
theorem xU(l:List aG)(r:aG):gZ l r=bQ l (ay r):=rfl
theorem Cr{α:Type}{p:α→Bool}:∀ {l:List α}{i:Nat}(hi:i≤l.length),(∀j (h:j<l.length),j<i→p l[j]=true)→(∀h:i<l.length,p l[i]=false)→(l.takeWhile p).length=i
 | [],i,hi,_,_=>by simp at hi;simp[hi]
 | a::l,0,_,_,h2=>by
   have h:=h2 spA
   rw[List.takeWhile_cons,if_neg (by simpa using h)]
   rfl
 | a::l,i + 1,hi,h1,h2=>by
   have h:=h1 0 spA omA
   rw[List.takeWhile_cons,if_pos (by simpa using h),List.length_cons,Cr (l:=l) (i:=i) (by simpa using hi) (fun j hj hji=>by have:=h1 (j+1) (by simpa using hj) omA;simpa using this) (fun h=>by have:=h2 (by simpa using h);simpa using this)]
theorem qx{l:List aG}{key:Val}{i:Nat}(hi:i≤l.length)(hlo:∀j (h:j<l.length),j<i→0<aU key (ay l[j]))(hhi:∀h:i<l.length,aU key (ay l[i])≤0):bQ l key=i:=by
 unfold bQ
 refine Cr hi (fun j h hji =>?_) (fun h =>?_)
 ·have h1:=hlo j h hji
  have h2:=bI.oU key (ay l[j])
  exact decide_eq_true omA
 ·have h1:=hhi h
  have h2:=bI.oU key (ay l[i])
  exact decide_eq_false omA
theorem aT.mono{l:List aG}(h:aT l){key:Val}{i j:Nat}(hij:i<j)(hj:j<l.length)(hc:aU key (ay (l[i]' omA))≤0):aU key (ay l[j])<0:=by
 have h1:=List.pairwise_iff_getElem.1 h.asc i j omA hj hij
 have h2:=bI.oU key (ay (l[i]' omA))
 have h3:=bI.trans (ay l[j]) (ay (l[i]' omA)) key
 have h4:=bI.oU (ay (l[i]' omA)) (ay l[j])
 have h5:=bI.oU key (ay l[j])
 rcases Int.lt_or_le (aU key (ay l[j])) 0 with h6|h6
 ·exact h6
 ·have h7:=bI.GG h1 (z:=key) omA
  omega
theorem iX{l:List aG}(h:aT l){key:Val}(hv:bT key=true){i:Nat}(hp:bQ l key=i):dC l key=true ↔ ∃hi:i<l.length,aU key (ay l[i])=0:=by
 unfold dC
 rw[hp]
 constructor
 ·intro hf
  rcases Nat.lt_or_ge i l.length with hi|hi
  ·rw[List.getElem?_eq_getElem hi]at hf
   have e:ay l[i]=key:=by simpa using hf
   exact⟨hi,by rw[e];exact bI.refl key⟩
  ·rw[List.getElem?_eq_none hi]at hf
   cases hf
 ·rintro⟨hi,hc⟩
  rw[List.getElem?_eq_getElem hi]
  exact decide_eq_true (jJ hv (h.val _ (lgm hi)) hc).symm
theorem qC{r:aG}{key:Val}(h:0<r.1.length):r.1.head?=some key↔ay r=key:=by
 obtain⟨a,b⟩:=r
 cases a with
 | nil=>simp at h
 | cons u us=>simp[ay]
theorem iY{l:List aG}(h:aT l){key:Val}(hv:bT key=true)(hk:key.kind≠0)(hf:dC l key=true):dV l key=(bQ l key:Int):=by
 obtain⟨hi,hc⟩:=(iX h hv rfl).1 hf
 unfold dV
 rw[if_pos (by rw[hv];simpa using hk)]
 refine sN hi ?_ fun j hj hji =>?_
 ·have e:=jJ hv (h.val _ (lgm hi)) hc
  exact decide_eq_true ((qC (h.row _ (lgm hi))).2 e.symm)
 ·rw[decide_eq_false_iff_not,qC (h.row _ (lgm hj))]
  intro e
  have h1:=List.pairwise_iff_getElem.1 h.asc j (bQ l key) hj hi hji
  rw[e]at h1
  omega
theorem jI{l:List aG}(h:aT l){key:Val}(hv:bT key=true)(hf:dC l key=false):dV l key<0:=by
 rcases Int.lt_or_le (dV l key) 0 with h1|h1
 ·exact h1
 exfalso
 unfold dV at h1
 split at h1
 ·rename_i hc
  obtain⟨m,hm,he,hp⟩:=wF h1
  have e:ay l[m]=key:=(qC (h.row _ (lgm hm))).1 (by simpa using hp)
  have hpl:bQ l key=m:=qx omA (fun j hj hji=>by
   have h2:=List.pairwise_iff_getElem.1 h.asc j m hj hm hji
   rw[e]at h2
   have h3:=bI.oU key (ay l[j])
   omega) (fun _=>by rw[e,bI.refl];exact Int.le_refl _)
  have h4:=(iX h hv hpl).2 ⟨hm,by rw[e];exact bI.refl key⟩
  rw[h4]at hf
  cases hf
 ·omega
theorem rF{l:List aG}(h:aT l){x:Chg}(hk1:x.kind=1)(hv:bT (keyOf x)=true)(hf:dC l (keyOf x)=false)(hl:l.length<64):aW l x=l.take (bQ l (keyOf x))++dX x::l.drop (bQ l (keyOf x)):=by
 rw[mY hk1 (jI h hv hf) omA]
 unfold mK
 rw[xU,←oh hk1,List.append_assoc]
 rfl
theorem jg{l:List aG}(h:aT l){x:Chg}(hk1:x.kind=1)(hv:bT (keyOf x)=true)(hf:dC l (keyOf x)=false)(hl:64≤l.length):aW l x=l:=xV hk1 (jI h hv hf) hl
theorem xI{α:Type}{l:List α}{i:Nat}(hi:i<l.length)(y:α):l.set i y=l.take i++y::l.drop (i+1):=by
 rw[List.set_eq_take_append_cons_drop,if_pos hi]
theorem rE{l:List aG}(h:aT l){x:Chg}(hk1:x.kind=1)(hv:bT (keyOf x)=true)(hkk:(keyOf x).kind≠0)(hf:dC l (keyOf x)=true):aW l x=l.set (bQ l (keyOf x)) (dX x):=by
 rw[qy hk1 (iY h hv hkk hf)]
 obtain⟨i,hie⟩:∃i,bQ l (keyOf x)=i:=⟨_,rfl⟩
 obtain⟨hi,hc⟩:=(iX h hv hie).1 hf
 rw[hie]
 have hlen:(l.take i).length=i:=by rw[List.length_take];omega
 have hp:gZ (iL l i) (dX x)=i:=by
  rw[xU,←oh hk1]
  refine qx (by unfold iL;simp;omega) (fun j hj hji =>?_) (fun hj =>?_)
  ·have hjl:j<l.length:=by omega
   have e0:(iL l i)[j]?=l[j]?:= by
    unfold iL
    rw[List.getElem?_append_left (by rw[hlen];exact hji),List.getElem?_take_of_lt hji]
   rw[List.getElem?_eq_getElem hj,List.getElem?_eq_getElem hjl]at e0
   have e1:=Option.some.inj e0
   rw[e1]
   have h2:=List.pairwise_iff_getElem.1 h.asc j i hjl hi hji
   have h3:=bI.oU (ay l[j]) (ay l[i])
   have h4:keyOf x=ay l[i]:=by
    have:=jJ hv (h.val _ (lgm hi)) hc
    exact this
   rw[h4]
   omega
  ·have hjl:i+1<l.length:=by unfold iL at hj;simp at hj;omega
   have e0:(iL l i)[i]?=l[i+1]?:= by
    unfold iL
    rw[List.getElem?_append_right (by rw[hlen];exact Nat.le_refl _),hlen,List.getElem?_drop]
    congr 1
    omega
   rw[List.getElem?_eq_getElem hj,List.getElem?_eq_getElem hjl]at e0
   have e1:=Option.some.inj e0
   rw[e1]
   exact Int.le_of_lt (h.mono (Nat.lt_succ_self i) hjl omA)
 unfold mK
 rw[hp,xI hi]
 have t1:(iL l i).take i=l.take i:=by unfold iL;exact List.take_left' hlen
 have t2:(iL l i).drop i=l.drop (i+1):=by unfold iL;exact List.drop_left' hlen
 rw[t1,t2,List.append_assoc]
 rfl
theorem uf{l:List aG}(h:aT l){x:Chg}(hk3:x.kind=3)(hv:bT (keyOf x)=true)(hkk:(keyOf x).kind≠0)(hf:dC l (keyOf x)=true):aW l x=iL l (bQ l (keyOf x)):=mZ omA omA (iY h hv hkk hf)
theorem tZ{l:List aG}(h:aT l){x:Chg}(hk2:x.kind=2)(hv:bT (keyOf x)=true)(hkk:(keyOf x).kind≠0)(hf:dC l (keyOf x)=true):aW l x=rU l (bQ l (keyOf x)) x:=mX hk2 (iY h hv hkk hf)
theorem jR{l:List aG}(h:aT l){x:Chg}(hk1:x.kind≠1)(hv:bT (keyOf x)=true)(hf:dC l (keyOf x)=false):aW l x=l:=jE hk1 (jI h hv hf)
theorem ll{ts:List Tab}{x:Chg}(h:aV ts x=0)(hok:aN ts):bT (keyOf x)=true∧(keyOf x).kind≠0:=by
 obtain⟨h1,h2,_,_,_⟩:=ma h
 refine⟨?_,h2⟩
 obtain⟨k,hin⟩:=fF h
 rcases hin.kind with hk1|hk2|hk3
 ·have hi:=nA h hk1 hin
  rw[oh hk1,kU (by rw[hi.len];exact(hok.ae hin.lt).1)]
  exact hi.vals _ (lgm _)
 ·unfold bB at h1
  rw[Bool.or_eq_false_iff]at h1
  have hb:=h1.2
  have e1:(x.kind == 1)=false:=by rw[hk2];rfl
  have e2:(x.kind == 2)=true:=by rw[hk2];rfl
  rw[e1,if_neg (by decide),e2,if_pos rfl]at hb
  unfold dJ at hb
  simp only[Bool.or_eq_false_iff,Bool.not_eq_false']at hb
  unfold keyOf
  rw[if_neg (by rw[e1];decide)]
  exact hb.1.1.2
 ·unfold bB at h1
  rw[Bool.or_eq_false_iff]at h1
  have hb:=h1.2
  have e1:(x.kind == 1)=false:=by rw[hk3];rfl
  have e2:(x.kind == 2)=false:=by rw[hk3];rfl
  rw[e1,if_neg (by decide),e2,if_neg (by decide)]at hb
  unfold eG at hb
  simp only[Bool.or_eq_false_iff,Bool.not_eq_false']at hb
  unfold keyOf
  rw[if_neg (by rw[e1];decide)]
  exact hb.2
theorem aT.sub{l l':List aG}(h:aT l)(hs:l'.Sublist l):aT l':=⟨fun r hr=>h.row r (hs.subset hr),fun r hr=>h.val r (hs.subset hr),h.asc.sublist hs⟩
theorem DL(l:List aG)(j:Nat):(iL l j).Sublist l:=by
 have h1:(l.drop (j+1)).Sublist (l.drop j):=by rw[←List.drop_drop];exact List.drop_sublist _ _
 have h2:=(List.Sublist.refl (l.take j)).append h1
 rwa [List.take_append_drop]at h2
theorem J5{x:Chg}{c:Nat}(hx:x.column=(c:Int))(hc:0<c)(a:aG):ay (a.1.set x.column.toNat x.val,a.2.1.set x.column.toNat x.seq,a.2.2)=ay a:=by
 obtain⟨a,b,d⟩:=a
 rw[hx,Int.toNat_natCast]
 unfold ay
 cases a with
 | nil=>rfl
 | cons u us=>rw[show c=(c-1)+1 by omega];rfl
theorem aT.upd{l:List aG}(h:aT l)(j:Nat){x:Chg}{c:Nat}(hx:x.column=(c:Int))(hc:0<c):aT (rU l j x):=by
 unfold rU
 split
 ·rename_i r hr
  obtain⟨hj,rfl⟩:=List.getElem?_eq_some_iff.1 hr
  have hK:=J5 hx hc
  refine⟨fun y hy =>?_,fun y hy =>?_,?_⟩
  ·rcases List.mem_or_eq_of_mem_set hy with h1|rfl
   ·exact h.row y h1
   ·simpa using h.row _ (lgm hj)
  ·rcases List.mem_or_eq_of_mem_set hy with h1|rfl
   ·exact h.val y h1
   ·rw[hK];exact h.val _ (lgm hj)
  ·rw[List.pairwise_iff_getElem]
   intro a b ha hb hab
   have h1:=List.pairwise_iff_getElem.1 h.asc a b (by simpa using ha) (by simpa using hb) hab
   rw[List.getElem_set,List.getElem_set]
   split
   ·rename_i e;subst e;rw[hK,if_neg omA];exact h1
   ·split
    ·rename_i e;subst e;rw[hK];exact h1
    ·exact h1
 ·exact h
theorem aT.ins{l:List aG}(h:aT l){r:aG}(h0:0<r.1.length)(hv:bT (ay r)=true)(hne:∀y∈l,aU (ay y) (ay r)≠0):aT (mK l r):=by
 have hp:=Ai l r
 refine⟨fun y hy =>?_,fun y hy =>?_,G7 h.asc hne⟩
 ·rcases List.mem_cons.1 (hp.mem_iff.1 hy) with rfl|h1
  ·exact h0
  ·exact h.row y h1
 ·rcases List.mem_cons.1 (hp.mem_iff.1 hy) with rfl|h1
  ·exact hv
  ·exact h.val y h1
theorem aT.sw{l:List aG}(h:aT l){ts:List Tab}{x:Chg}(hf:aV ts x=0)(hok:aN ts):aT (aW l x):=by
 obtain⟨k,hin⟩:=fF hf
 obtain⟨hv,hk⟩:=ll hf hok
 have hpos:=(hok.ae hin.lt).1
 rcases hin.kind with hk1|hk2|hk3
 ·have hi:=nA hf hk1 hin
  have hr0:0<(dX x).1.length:=by show 0<x.row.length;rw[hi.len];exact hpos
  have hke:=oh hk1
  have hne:∀l',aT l'→(∀y∈l',ay y≠keyOf x)→∀y∈l',aU (ay y) (ay (dX x))≠0:=fun l' h' hn y hy e=>hn y hy (jJ (h'.val y hy) hv (by rw[hke];exact e))
  cases hfd:dC l (keyOf x)
  ·rcases Nat.lt_or_ge l.length 64 with hl|hl
   ·rw[mY hk1 (jI h hv hfd) omA]
    refine h.ins hr0 (by rw[←hke];exact hv) (hne l h fun y hy e =>?_)
    have h1:=jI h hv hfd
    unfold dV at h1
    rw[if_pos (by rw[hv];simpa using hk)]at h1
    have h2:=DF h1 y hy
    rw[decide_eq_false_iff_not]at h2
    exact h2 ((qC (h.row y hy)).2 e)
   ·rw[jg h hk1 hv hfd hl];exact h
  ·rw[qy hk1 (iY h hv hk hfd)]
   have hs:=h.sub (DL l (bQ l (keyOf x)))
   refine hs.ins hr0 (by rw[←hke];exact hv) (hne _ hs fun y hy e =>?_)
   obtain⟨hi,hc⟩:=(iX h hv rfl).1 hfd
   have e2:=jJ hv (h.val _ (lgm hi)) hc
   unfold iL at hy
   rcases List.mem_append.1 hy with h1|h1
   ·obtain⟨j,hj,rfl⟩:=List.getElem_of_mem h1
    rw[List.length_take]at hj
    rw[List.getElem_take]at e
    have h3:=List.pairwise_iff_getElem.1 h.asc j (bQ l (keyOf x)) omA hi omA
    rw[e,←e2,bI.refl]at h3
    omega
   ·obtain⟨j,hj,rfl⟩:=List.getElem_of_mem h1
    rw[List.length_drop]at hj
    rw[List.getElem_drop]at e
    have h3:=List.pairwise_iff_getElem.1 h.asc (bQ l (keyOf x)) (bQ l (keyOf x)+1+j) hi omA omA
    rw[e,←e2,bI.refl]at h3
    omega
 ·obtain⟨c,hu⟩:=ny hf hk2 hin
  by_cases hz:dV l (keyOf x)<0
  ·rw[jE omA hz];exact h
  ·obtain⟨j,hj,he⟩:=kg (Int.not_lt.1 hz)
   rw[mX hk2 he]
   exact h.upd j hu.col hu.pos
 ·by_cases hz:dV l (keyOf x)<0
  ·rw[jE omA hz];exact h
  ·obtain⟨j,hj,he⟩:=kg (Int.not_lt.1 hz)
   rw[mZ omA omA he]
   exact h.sub (DL l j)
def mo(pl:List (List aG)):Prop:= ∀l∈pl,aT l
theorem aT.nil:aT []:=⟨fun r hr=>(by cases hr),fun r hr=>(by cases hr),List.Pairwise.nil⟩
theorem mo.zero(n:Nat):mo (List.replicate n []):=fun l hl=>by rw[(List.mem_replicate.1 hl).2];exact aT.nil
theorem mo.tab{pl:List (List aG)}(h:mo pl)(k:Int):aT (pq pl k):=by
 unfold pq
 split
 ·rename_i l hl
  exact h l (List.mem_of_getElem? hl)
 ·exact aT.nil
theorem mo.sw{pl:List (List aG)}(h:mo pl){ts:List Tab}{x:Chg}(hf:aV ts x=0)(hok:aN ts):mo (aQ pl x):=fun l hl=>by
 unfold aQ at hl
 rcases List.mem_or_eq_of_mem_set hl with h1|rfl
 ·exact h l h1
 ·exact(h.tab _).sw hf hok
def kQ(m:Nat)(x:Chg):Bool:=decide (x.seq<1)||(decide (1073741824<x.seq)||(decide (x.day<0)||(decide (1048576<x.day)||(decide (x.table<0)||decide ((m:Int)≤x.table)))))
noncomputable def jH(ae:List Col)(x:Chg):Int:=if dD ae.length x=true then 1 else if ((keyOf x).kind == 0)=true then 6 else if pb (fH ae x.row)=false then 5 else 0
noncomputable def mr(ae:List Col)(x:Chg):Int:=if dJ ae.length x=true then 1 else if (x.key.kind == 0)=true then 6 else if (!dz x.val (oN ae x.column)||x.key.kind != oN ae 0)=true then 5 else if pb (dn ae x.column)=true then 11 else 0
def mO(ae:List Col)(x:Chg):Int:=if eG x=true then 1 else if (x.key.kind == 0)=true then 6 else if (x.key.kind != oN ae 0)=true then 5 else 0
theorem oH{m:Nat}{x:Chg}:eB m x=(!aB x.kind 1 3||kQ m x):=by
 unfold eB kQ aB
 by_cases h1:1≤x.kind<;>by_cases h2:x.kind≤3<;>by_cases h3:1≤x.seq<;>by_cases h4:x.seq≤1073741824<;>by_cases h5:0≤x.day<;>by_cases h6:x.day≤1048576<;>by_cases h7:0≤x.table<;>by_cases h8:x.table≤(m:Int)-1<;>simp[h1,h2,h3,h4,h5,h6,h7,h8]<;>omega
theorem IZ{ts:List Tab}{x:Chg}(h:kQ ts.length x=true):aV ts x=1:=by
 unfold aV
 rw[if_pos]
 unfold bB
 rw[oH,h]
 simp
theorem I1{ts:List Tab}{x:Chg}(h1:x.kind≠1)(h2:x.kind≠2)(h3:x.kind≠3):aV ts x=1:=by
 unfold aV
 rw[if_pos]
 unfold bB
 rw[oH]
 have:aB x.kind 1 3=false:=by
  unfold aB
  by_cases h4:1≤x.kind<;>by_cases h5:x.kind≤3<;>simp[h4,h5]
  omega
 rw[this]
 simp
section
variable {ts:List Tab}{x:Chg}{k:Nat}
theorem BF(h:kQ ts.length x=false)(hk:x.kind=1∨x.kind=2∨x.kind=3):eB ts.length x=false:=by
 rw[oH,h]
 have:aB x.kind 1 3=true:=by rcases hk with h|h|h<;>rw[h]<;>decide
 rw[this]
 rfl
theorem Dy(h:kQ ts.length x=false)(hk:x.kind=1)(ht:x.table=(k:Int))(hkt:k<ts.length)(h0:0<ts[k].ae.length):aV ts x=jH ts[k].ae x:=by
 have hh:=BF h (.inl hk)
 have e1:(x.kind == 1)=true:=by rw[hk];rfl
 have e2:(x.kind == 2)=false:=by rw[hk];rfl
 have hinv:bB ts x=dD ts[k].ae.length x:=by
  unfold bB
  rw[hh,e1,ht,cB hkt]
  rfl
 unfold aV jH iw
 rw[hinv,e2,ht,cB hkt]
 simp only[Bool.false_and,Bool.or_false,Bool.false_eq_true,if_false]
 split
 ·rfl
 rename_i hb
 split
 ·rfl
 split
 ·rfl
 rename_i hr
 have hr:fH ts[k].ae x.row:=nY.1 (by simpa using hr)
 have hlen:x.row.length=ts[k].ae.length:=by
  unfold dD at hb
  simp only[Bool.not_eq_true,Bool.or_eq_false_iff]at hb
  have:=hb.1.2
  have:((x.row.length:Int)=(ts[k].ae.length:Int)):=by simpa using this
  omega
 have hl0:0<x.row.length:=by omega
 have hkey:keyOf x=x.row[0]:=by rw[oh hk,kU hl0]
 have hty:=hr 0 hl0 h0
 rw[if_neg]
 rw[hkey,show (0:Int)=((0:Nat):Int) from rfl,kW h0,hty]
 decide
theorem zQ{v:Val}{t:Int}(h:(v.kind == 0)=false):(!dz v t)=(v.kind != t):=by
 unfold dz
 rw[h]
 simp[bne]
theorem Dx(h:kQ ts.length x=false)(hk:x.kind=2)(ht:x.table=(k:Int))(hkt:k<ts.length):aV ts x=mr ts[k].ae x:=by
 have hh:=BF h (.inr (.inl hk))
 have e1:(x.kind == 1)=false:=by rw[hk];rfl
 have e2:(x.kind == 2)=true:=by rw[hk];rfl
 have ek:keyOf x=x.key:=by unfold keyOf;rw[e1,if_neg (by decide)]
 have hinv:bB ts x=dJ ts[k].ae.length x:=by
  unfold bB
  rw[hh,e1,e2,ht,cB hkt]
  rfl
 unfold aV mr iw
 rw[hinv,e2,ht,cB hkt,ek]
 simp only[Bool.true_and]
 split
 ·rfl
 rename_i hb
 split
 ·rfl
 rename_i hz
 have hz:(x.key.kind == 0)=false:=by simpa using hz
 have hrow:x.row=[]:=by
  unfold dJ at hb
  simp only[Bool.not_eq_true,Bool.or_eq_false_iff]at hb
  have:=hb.1.1.1
  have:¬ 0<x.row.length:=by simpa using this
  exact List.eq_nil_of_length_eq_zero omA
 have hr:pb (fH ts[k].ae x.row)=true:=bV fun i h _=>by rw[hrow]at h;simp at h
 rw[hr,zQ hz,Bool.or_comm]
 simp
theorem Dz(h:kQ ts.length x=false)(hk:x.kind=3)(ht:x.table=(k:Int))(hkt:k<ts.length):aV ts x=mO ts[k].ae x:=by
 have hh:=BF h (.inr (.inr hk))
 have e1:(x.kind == 1)=false:=by rw[hk];rfl
 have e2:(x.kind == 2)=false:=by rw[hk];rfl
 have ek:keyOf x=x.key:=by unfold keyOf;rw[e1,if_neg (by decide)]
 have hinv:bB ts x=eG x:=by
  unfold bB
  rw[hh,e1,e2,ht]
  rfl
 unfold aV mO iw
 rw[hinv,e2,ht,cB hkt,ek]
 simp only[Bool.false_and,Bool.or_false]
 split
 ·rfl
 rename_i hb
 split
 ·rfl
 rename_i hz
 have hz:(x.key.kind == 0)=false:=by simpa using hz
 have hrow:x.row=[]:=by
  unfold eG at hb
  simp only[Bool.not_eq_true,Bool.or_eq_false_iff]at hb
  have:=hb.1.1.1
  have:¬ 0<x.row.length:=by simpa using this
  exact List.eq_nil_of_length_eq_zero omA
 have hr:pb (fH ts[k].ae x.row)=true:=bV fun i h _=>by rw[hrow]at h;simp at h
 rw[hr,zQ hz]
 simp
end
end Go.Proofs.YtjidligipoldeaaGreat
