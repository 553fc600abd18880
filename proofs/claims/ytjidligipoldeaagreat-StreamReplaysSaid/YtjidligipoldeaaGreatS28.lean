/-
  Contracts and plain laws of this seat, part 28.
-/
import Derived.Test.YtjidligipoldeaaGreatS17
set_option linter.unusedVariables false
set_option linter.unusedSimpArgs false
set_option maxRecDepth 100000
set_option maxHeartbeats 16000000
namespace Go.Proofs.YtjidligipoldeaaGreat
open Go.RowKit
theorem iQ{x y:Val}(hx:bK x=true)(hy:bK y=true)(h:aT x y=0):x=y:=by
 rw[mE,kM hx,kM hy]at h
 exact tX h
def dG(r:aJ):Int:=r.2.1.headD 0
structure gW (ae:List Col) (l:List aJ):Prop where
 len:l.length≤64
 rcd:∀r∈l,j5 ae r.1 r.2.1 r.2.2
 asc:l.Pairwise (fun a b=>aT (aA a) (aA b)<0)
 own:l.Pairwise (fun a b=>dG a≠dG b)
structure POk (ts:List Tab) (pl:List (List aJ)):Prop where
 len:pl.length=ts.length
 tab:∀i (h:i<pl.length) (h':i<ts.length),gW ts[i].ae pl[i]
theorem Ga{l:List aJ}(h:∀k (hk:k<l.length) (h0:0<k),aT (aA (l[k-1]' omA)) (aA l[k])<0):l.Pairwise (fun a b=>aT (aA a) (aA b)<0):=by
 rw[List.pairwise_iff_getElem]
 intro i j hi hj hij
 obtain⟨d,rfl⟩:∃d,j=i+1+d:=⟨j-(i+1),by omega⟩
 clear hij
 induction d with
 | zero=>exact h (i+1) hj omA
 | succ d ih =>
   have h1:=ih omA
   have h2:=h (i+1+(d+1)) hj omA
   have e:l[i+1+(d+1)-1]' omA=l[i+1+d]' omA:=by congr 1
   rw[e]at h2
   exact bF.xQ h1 omA
theorem Ao{α:Type}{p:α→Bool}:∀ {l:List α}{y:α},y∈l.takeWhile p→p y=true
 | [],_,h=>by cases h
 | a::l,y,h=>by
   rw[List.takeWhile_cons]at h
   split at h
   ·rename_i ha
    rcases List.mem_cons.1 h with rfl|h1
    ·exact ha
    ·exact Ao h1
   ·cases h
theorem RTabOk.pure{ae:List Col}{recs:List Rcd}(h:RTabOk ae recs):gW ae (recs.map az):=by
 refine⟨by simpa using h.len,fun r hr =>?_,Ga fun k hk h0 =>?_,?_⟩
 ·obtain⟨x,hx,rfl⟩:=List.mem_map.1 hr
  obtain⟨j,hj,rfl⟩:=List.getElem_of_mem hx
  exact(h.at_ j hj).ok
 ·have hk':k<recs.length:=by simpa using hk
  rw[List.getElem_map,List.getElem_map]
  exact(h.at_ k hk').asc h0
 ·rw[List.pairwise_iff_getElem]
  intro i j hi hj hij
  rw[List.getElem_map,List.getElem_map]
  have hj':j<recs.length:=by simpa using hj
  exact(h.at_ j hj').own i hij
theorem dI.pure{ts:List Tab}{rt:List RTab}(h:dI ts rt):POk ts (rt.map ax):=
 ⟨by simpa using h.len,fun i hi hi'=>by rw[List.getElem_map];exact(h.tab i (by simpa using hi) hi').pure⟩
theorem POk.zero(ts:List Tab):POk ts (List.replicate ts.length []):=
 ⟨by simp,fun i hi hi'=>by rw[List.getElem_replicate];exact⟨by simp,fun r hr=>(by cases hr),List.Pairwise.nil,List.Pairwise.nil⟩⟩
theorem gW.cut{ae:List Col}{l:List aJ}(h:gW ae l)(j:Nat):gW ae (ik l j):=by
 have hs:(ik l j).Sublist l:=by
  have h1:(l.drop (j+1)).Sublist (l.drop j):=by rw[←List.drop_drop];exact List.drop_sublist _ _
  have h2:=(List.Sublist.refl (l.take j)).append h1
  rwa [List.take_append_drop]at h2
 exact⟨Nat.le_trans hs.length_le h.len,fun r hr=>h.rcd r (hs.subset hr),h.asc.sublist hs,h.own.sublist hs⟩
theorem Ar(l:List aJ)(r:aJ):(mr l r).Perm (r::l):=by
 unfold mr
 have h1:= @List.perm_middle _ r (l.take (gP l r)) (l.drop (gP l r))
 rw[List.take_append_drop]at h1
 simpa using h1
theorem Ht{l:List aJ}(h:l.Pairwise (fun a b=>aT (aA a) (aA b)<0)){r:aJ}(hne:∀y∈l,aT (aA y) (aA r)≠0):(mr l r).Pairwise (fun a b=>aT (aA a) (aA b)<0):=by
 have hlt:∀y∈l.take (gP l r),aT (aA y) (aA r)<0:=by
  intro y hy
  have e:l.take (gP l r)=l.takeWhile fun y=>decide (aT (aA y) (aA r)<0):=by
   conv=>lhs;arg 2;rw[←List.takeWhile_append_dropWhile (p:=fun y=>decide (aT (aA y) (aA r)<0)) (l:=l)]
   exact List.take_left' rfl
  rw[e]at hy
  have h1:=Ao hy
  simpa using h1
 have hge:∀y∈l.drop (gP l r),aT (aA r) (aA y)<0:=by
  have e:l.drop (gP l r)=l.dropWhile fun y=>decide (aT (aA y) (aA r)<0):=by
   conv=>lhs;arg 2;rw[←List.takeWhile_append_dropWhile (p:=fun y=>decide (aT (aA y) (aA r)<0)) (l:=l)]
   exact List.drop_left' rfl
  have hd:(l.drop (gP l r)).Pairwise (fun a b=>aT (aA a) (aA b)<0):=h.sublist (List.drop_sublist _ _)
  have hm:∀y∈l.drop (gP l r),y∈l:=fun y hy=>List.mem_of_mem_drop hy
  cases hc:l.drop (gP l r) with
  | nil=>intro y hy;cases hy
  | cons z zs =>
    have hz:¬ aT (aA z) (aA r)<0:=by
     have h1:(l.dropWhile fun y=>decide (aT (aA y) (aA r)<0)).head?=some z:=by rw[←e,hc];rfl
     have h2:=List.head?_dropWhile_not (fun y=>decide (aT (aA y) (aA r)<0)) l
     rw[h1]at h2
     simpa using h2
    rw[hc]at hd hm
    have hz0:=hne z (hm z spA)
    have ha:=bF.mX (aA z) (aA r)
    intro y hy
    rcases List.mem_cons.1 hy with rfl|hy
    ·omega
    ·have h3:=(List.pairwise_cons.1 hd).1 y hy
     have h4:aT (aA r) (aA z)<0:=by omega
     exact bF.xQ h4 omA
 unfold mr
 rw[List.append_assoc]
 refine List.pairwise_append.2 ⟨h.sublist (List.take_sublist _ _),List.pairwise_append.2 ⟨List.pairwise_singleton _ _,h.sublist (List.drop_sublist _ _),fun a ha b hb =>?_⟩,fun a ha b hb =>?_⟩
 ·rw[List.mem_singleton.1 ha];exact hge b hb
 ·rcases List.mem_append.1 hb with h1|h1
  ·rw[List.mem_singleton.1 h1];exact hlt a ha
  ·exact bF.xQ (hlt a ha) (by have:=hge b h1;omega)
theorem gW.ins{ae:List Col}{l:List aJ}(h:gW ae l)(hl:l.length<64){r:aJ}(hr:j5 ae r.1 r.2.1 r.2.2)(hne:∀y∈l,aT (aA y) (aA r)≠0)(hown:∀y∈l,dG y≠dG r):gW ae (mr l r):=by
 have hp:=Ar l r
 refine⟨by rw[hp.length_eq,List.length_cons];omega,fun y hy =>?_,Ht h.asc hne,?_⟩
 ·rcases List.mem_cons.1 (hp.mem_iff.1 hy) with rfl|h1
  ·exact hr
  ·exact h.rcd y h1
 ·refine(List.Perm.pairwise_iff (fun {a b} (h:dG a≠dG b)=>Ne.symm h) hp).2 (List.pairwise_cons.2 ⟨fun y hy=>(hown y hy).symm,h.own⟩)
theorem gW.upd{ae:List Col}{l:List aJ}(h:gW ae l)(j:Nat){x:Chg}{c:Nat}(hx:x.column=(c:Int))(hc0:0<c)(hc:c<ae.length)(hv:bK x.val=true)(ht:dw x.val ae[c].ty=true)(hs:aB x.seq 1 1073741824=true)(hlast:∀r∈l,∀s∈r.2.1,s≤x.seq):gW ae (qm l j x):=by
 unfold qm
 split
 ·rename_i r hr
  have hm:=List.mem_of_getElem? hr
  obtain⟨hj,rfl⟩:=List.getElem?_eq_some_iff.1 hr
  have h0:=h.rcd _ hm
  rw[hx,Int.toNat_natCast]
  have hP:∀(a:aJ),aA (a.1.set c x.val,a.2.1.set c x.seq,a.2.2)=aA a:=by
   rintro⟨a,b,d⟩
   unfold aA
   cases a with
   | nil=>rfl
   | cons u us=>rw[show c=(c-1)+1 by omega];rfl
  have hQ:∀(a:aJ),dG (a.1.set c x.val,a.2.1.set c x.seq,a.2.2)=dG a:=by
   rintro⟨a,b,d⟩
   unfold dG
   cases b with
   | nil=>rfl
   | cons u us=>rw[show c=(c-1)+1 by omega];rfl
  refine⟨by simpa using h.len,fun y hy =>?_,?_,?_⟩
  ·rcases List.mem_or_eq_of_mem_set hy with h1|rfl
   ·exact h.rcd y h1
   ·refine⟨by simpa using h0.len,by simpa using h0.Bc,h0.day,fun i hi =>?_,fun hk =>?_⟩
    ·have hci:=h0.cell i hi
     refine⟨fun hl =>?_,fun hl hk =>?_,fun hl =>?_,fun hl hl0 =>?_⟩
     ·rw[List.getElem_set]
      split
      ·exact hv
      ·exact hci.val (by simpa using hl)
     ·rw[List.getElem_set]
      split
      ·rename_i he
       subst he
       exact ht
      ·exact hci.typ (by simpa using hl) hk
     ·rw[List.getElem_set]
      split
      ·exact hs
      ·exact hci.pos (by simpa using hl)
     ·rw[List.getElem_set,List.getElem_set,if_neg omA]
      have hl':i<l[j].2.1.length:=by simpa using hl
      have hl0':0<l[j].2.1.length:=by simpa using hl0
      split
      ·exact hlast _ (lgm hj) _ (lgm hl0')
      ·exact hci.asc hl' hl0'
    ·rw[List.getElem_set,if_neg omA]
     exact h0.key (by simpa using hk)
  ·rw[List.pairwise_iff_getElem]
   intro a b ha hb hab
   have h1:=List.pairwise_iff_getElem.1 h.asc a b (by simpa using ha) (by simpa using hb) hab
   rw[List.getElem_set,List.getElem_set]
   split
   ·rename_i e;subst e;rw[hP,if_neg omA];exact h1
   ·split
    ·rename_i e;subst e;rw[hP];exact h1
    ·exact h1
  ·rw[List.pairwise_iff_getElem]
   intro a b ha hb hab
   have h1:=List.pairwise_iff_getElem.1 h.own a b (by simpa using ha) (by simpa using hb) hab
   rw[List.getElem_set,List.getElem_set]
   split
   ·rename_i e;subst e;rw[hQ,if_neg omA];exact h1
   ·split
    ·rename_i e;subst e;rw[hQ];exact h1
    ·exact h1
 ·exact h
theorem xU:∀(l:List Int) (a:Int),a≤l.foldl max a ∧ ∀x∈l,x≤l.foldl max a
 | [],a=>⟨Int.le_refl _,fun x hx=>by cases hx⟩
 | y::l,a=>by
   have h:=xU l (max a y)
   rw[List.foldl_cons]
   refine⟨by have:=h.1;omega,fun x hx =>?_⟩
   rcases List.mem_cons.1 hx with rfl|hx
   ·have:=h.1;omega
   ·exact h.2 x hx
theorem le_last{rt:List RTab}{t:RTab}(ht:t∈rt){r:Rcd}(hr:r∈t.recs){s:Int}(hs:s∈r.seq):s≤lS rt:=by
 unfold lS ou
 refine(xU _ 0).2 s ?_
 unfold ma
 exact List.mem_flatMap.2 ⟨t,ht,List.mem_flatMap.2 ⟨r,hr,hs⟩⟩
theorem vQ{α:Type}{p:α→Bool}{l:List α}(h:fq p l<0):∀y∈l,p y=false:=by
 unfold fq at h
 split at h
 ·omega
 ·rename_i hn
  intro y hy
  rw[List.findIdx?_eq_none_iff]at hn
  exact hn y hy
structure H7 (ts:List Tab) (x:Chg) (k:Nat) (h:k<ts.length):Prop where
 len:x.row.length=ts[k].ae.length
 vals:∀v∈x.row,bK v=true
 typ:fH ts[k].ae x.row
 day:aB x.day 0 1048576=true
 key:(keyOf x).kind≠0
structure Pk (ts:List Tab) (x:Chg) (k c:Nat) (h:k<ts.length):Prop where
 col:x.column=(c:Int)
 lt:c<ts[k].ae.length
 pos:0<c
 val:bK x.val=true
 typ:dw x.val ts[k].ae[c].ty=true
theorem pq{ts:List Tab}{x:Chg}(h:aY ts x=0):bE ts x=false∧(keyOf x).kind≠0∧fH (dx ts x.table) x.row∧iL (dx ts x.table) x=false∧(x.kind == 2&&pb (cZ (dx ts x.table) x.column))=false:=by
 unfold aY at h
 split at h
 ·omega
 ·rename_i h1
  split at h
  ·omega
  ·rename_i h2
   split at h
   ·omega
   ·rename_i h3
    split at h
    ·omega
    ·rename_i h4
     split at h
     ·omega
     ·rename_i h5
      exact⟨by simpa using h1,by simpa using h2,mi.1 (by simpa using h3),by simpa using h4,by simpa using h5⟩
theorem kY{ts:List Tab}{x:Chg}(h:aY ts x=0)(hk1:x.kind=1){k:Nat}(hin:jI ts x k):H7 ts x k hin.lt:=by
 obtain⟨h1,h2,h3,h4,h5⟩:=pq h
 have hlt:=hin.lt
 unfold bE at h1
 rw[Bool.or_eq_false_iff]at h1
 obtain⟨hh,hb⟩:=h1
 have e1:(x.kind == 1)=true:=by simpa using hk1
 rw[e1,if_pos rfl]at hb
 unfold eF at hh
 unfold dD at hb
 simp only[Bool.or_eq_false_iff,Bool.not_eq_false']at hh hb
 have hr:=hb.2
 unfold uu at hr
 rw[Bool.and_eq_true,List.all_eq_true]at hr
 rw[hin.tab,bV hlt]at h3
 refine⟨by rw[hin.ins hk1,bV hlt],hr.2,h3,hh.1.2,h2⟩
theorem pg{ts:List Tab}{x:Chg}(h:aY ts x=0)(hk2:x.kind=2){k:Nat}(hin:jI ts x k):∃c,Pk ts x k c hin.lt:=by
 obtain⟨h1,h2,h3,h4,h5⟩:=pq h
 have hlt:=hin.lt
 obtain⟨c,hc,hcl⟩:=hin.upd hk2
 rw[bV hlt]at hcl
 unfold bE at h1
 rw[Bool.or_eq_false_iff]at h1
 obtain⟨hh,hb⟩:=h1
 have e1:(x.kind == 1)=false:=by rw[hk2];rfl
 have e2:(x.kind == 2)=true:=by rw[hk2];rfl
 rw[e1,if_neg (by decide),e2,if_pos rfl]at hb
 unfold dC at hb
 simp only[Bool.or_eq_false_iff,Bool.not_eq_false']at hb
 unfold iL at h4
 rw[e2,Bool.true_and,Bool.or_eq_false_iff,hin.tab,bV hlt,hc,kQ hcl]at h4
 rw[e2,Bool.true_and,hin.tab,bV hlt,hc]at h5
 have h6:¬ cZ ts[k].ae (c:Int):=fun hf=>by rw[bS hf]at h5;cases h5
 refine⟨c,hc,hcl,?_,hb.2,by simpa using h4.2⟩
 rcases Nat.eq_zero_or_pos c with rfl|h0
 ·exact absurd (.inl rfl) h6
 ·exact h0
theorem Ld{ts:List Tab}{x:Chg}{k:Nat}(hin:jI ts x k)(hlt:k<ts.length)(hk1:x.kind=1)(hi:H7 ts x k hlt):j5 ts[k].ae (fA x).1 (fA x).2.1 (fA x).2.2:=by
 refine⟨hi.len,by simpa[fA]using hi.len,hi.day,fun i hic=>⟨fun h=>hi.vals _ (lgm h),fun h hc=>hi.typ i h hc,fun h =>?_,fun h h0 =>?_⟩,fun h =>?_⟩
 ·simp only[fA,List.getElem_replicate];exact hin.seq
 ·simp only[fA,List.getElem_replicate];exact Int.le_refl _
 ·have hk:=hi.key
  unfold keyOf at hk
  rw[if_pos (by simpa using hk1)]at hk
  have h0:0<x.row.length:=h
  have e:∀(l:List Val) (h:0<l.length),l.headD ⟨0,0,⟨#[]⟩⟩=l[0]:=fun l h=>by
   cases l with
   | nil=>simp at h
   | cons a t=>rfl
  rw[e _ h0]at hk
  exact hk
theorem kr{x:Chg}(hk:x.kind=1):keyOf x=aA (fA x):=by
 unfold keyOf aA fA
 rw[if_pos (by simpa using hk)]
theorem Ea{ts:List Tab}{rt:List RTab}{x:Chg}(h:jG ts rt x=0):POk ts (aK (rt.map ax) x):=by
 unfold jG at h
 split at h
 ·omega
 rename_i h1
 split at h
 ·rename_i h2;rw[h]at h2;simp at h2
 rename_i h2
 split at h
 ·omega
 rename_i h3
 have hok:dI ts rt:=mi.1 (by simpa using h1)
 have hf:aY ts x=0:=by simpa using h2
 have hlast:lS rt<x.seq:=by simpa using h3
 have hp:=hok.pure
 obtain⟨k,hin⟩:=gF hf
 have hlt:=hin.lt
 have hrl:=hok.len
 have hk:k<rt.length:=by omega
 have hkp:k<(rt.map ax).length:=by simpa using hk
 have htab:=hp.tab k hkp hlt
 have hsq:∀r∈(rt.map ax)[k],∀s∈r.2.1,s<x.seq:=by
  intro r hr s hs
  rw[List.getElem_map]at hr
  obtain⟨y,hy,rfl⟩:=List.mem_map.1 hr
  have:=le_last (lgm hk) hy hs
  omega
 have hfp:gG (iX rt (k:Int)) (keyOf x)=dz (rt.map ax)[k] (keyOf x):=by rw[qR hk,eZ,List.getElem_map];rfl
 have hln:(iX rt (k:Int)).length=(rt.map ax)[k].length:=by rw[qR hk,List.getElem_map];simp[ax]
 have hpos:0<ts[k].ae.length:=(hok.cat.ae hlt).1
 have key:gW ts[k].ae (bB (rt.map ax)[k] x):=by
  unfold kS at h
  rw[hin.tab,hfp,hln]at h
  rcases hin.kind with hk1|hk2|hk3
  ·have hi:=kY hf hk1 hin
   have e1:(x.kind == 1)=true:=by simpa using hk1
   rw[e1]at h
   simp only[Bool.true_and]at h
   split at h
   ·omega
   rename_i h4
   split at h
   ·omega
   split at h
   ·omega
   split at h
   ·omega
   split at h
   ·omega
   rename_i h5
   have h4:dz (rt.map ax)[k] (keyOf x)<0:=by simpa using h4
   have h5:¬ 64≤(rt.map ax)[k].length:=by simpa using h5
   rw[kI hk1 h4 h5]
   have hvk:bK (keyOf x)=true:=by
    rw[kr hk1,jE (by rw[hi.len];exact hpos)]
    exact hi.vals _ (lgm _)
   refine htab.ins omA (Ld hin hlt hk1 hi) (fun y hy he =>?_) (fun y hy he =>?_)
   ·have hy1:=htab.rcd y hy
    have hyl:0<y.1.length:=by rw[hy1.len];exact hpos
    have hyv:bK (aA y)=true:=by
     have e:aA y=y.1[0]:=by
      obtain⟨a,b⟩:=y
      cases a with
      | nil=>simp at hyl
      | cons u us=>rfl
     rw[e]
     exact(hy1.cell 0 hpos).val hyl
    rw[←kr hk1]at he
    have hee:=iQ hyv hvk he
    unfold dz at h4
    rw[if_pos (by rw[hvk];simpa using hi.key)]at h4
    have h6:=vQ h4 y hy
    rw[decide_eq_false_iff_not]at h6
    refine h6 ?_
    rw[←hee]
    obtain⟨a,b⟩:=y
    cases a with
    | nil=>simp at hyl
    | cons u us=>rfl
   ·have hy1:=htab.rcd y hy
    have hyl:0<y.2.1.length:=by rw[hy1.Bc];exact hpos
    have h6:=hsq y hy y.2.1[0] (lgm hyl)
    have e:dG y=y.2.1[0]:=by
     obtain⟨a,b,c⟩:=y
     cases b with
     | nil=>simp at hyl
     | cons u us=>rfl
    have e2:dG (fA x)=x.seq:=by
     have h0:0<x.row.length:=by rw[hi.len];exact hpos
     unfold dG fA
     simp only
     rw[show x.row.length=(x.row.length-1)+1 by omega]
     rfl
    rw[e,e2]at he
    omega
  ·obtain⟨c,hu⟩:=pg hf hk2 hin
   by_cases hz:dz (rt.map ax)[k] (keyOf x)<0
   ·rw[gQ omA hz];exact htab
   ·obtain⟨j,hj,he⟩:=iG (Int.not_lt.1 hz)
    rw[kH hk2 he]
    exact htab.upd j hu.col hu.pos hu.lt hu.val hu.typ hin.seq fun r hr s hs=>Int.le_of_lt (hsq r hr s hs)
  ·by_cases hz:dz (rt.map ax)[k] (keyOf x)<0
   ·rw[gQ omA hz];exact htab
   ·obtain⟨j,hj,he⟩:=iG (Int.not_lt.1 hz)
    rw[kJ omA omA he]
    exact htab.cut j
 have hpe:aK (rt.map ax) x=(rt.map ax).set k (bB (rt.map ax)[k] x):=by
  unfold aK
  rw[hin.tab,Int.toNat_natCast,iV hkp]
 rw[hpe]
 refine⟨by simpa using hp.len,fun i hi hi' =>?_⟩
 rw[List.getElem_set]
 split
 ·rename_i e
  subst e
  exact key
 ·exact hp.tab i (by simpa using hi) hi'
structure aV (l:List aJ):Prop where
 row:∀r∈l,0<r.1.length
 val:∀r∈l,bK (aA r)=true
 asc:l.Pairwise (fun a b=>aT (aA a) (aA b)<0)
theorem FM{r:aJ}(h:0<r.1.length):aA r=r.1[0]:=by
 obtain⟨a,b⟩:=r
 cases a with
 | nil=>simp at h
 | cons u us=>rfl
theorem gW.keys{ae:List Col}{l:List aJ}(h:gW ae l)(h0:0<ae.length):aV l:=
 ⟨fun r hr=>by rw[(h.rcd r hr).len];exact h0,fun r hr=>by
  have hl:0<r.1.length:=by rw[(h.rcd r hr).len];exact h0
  rw[FM hl]
  exact((h.rcd r hr).cell 0 h0).val hl,h.asc⟩
def cK(l:List aJ)(key:Val):Nat:=(l.takeWhile fun y=>decide (aT (aA y) key<0)).length
def di(l:List aJ)(key:Val):Bool:=match l[cK l key]? with
 | some r=>decide (aA r=key)
 | none=>false
theorem xK(l:List aJ)(r:aJ):gP l r=cK l (aA r):=rfl
theorem CF{α:Type}{p:α→Bool}:∀ {l:List α}{i:Nat}(hi:i≤l.length),(∀j (h:j<l.length),j<i→p l[j]=true)→(∀h:i<l.length,p l[i]=false)→(l.takeWhile p).length=i
 | [],i,hi,_,_=>by simp at hi;simp[hi]
 | a::l,0,_,_,h2=>by
   have h:=h2 spA
   rw[List.takeWhile_cons,if_neg (by simpa using h)]
   rfl
 | a::l,i + 1,hi,h1,h2=>by
   have h:=h1 0 spA omA
   rw[List.takeWhile_cons,if_pos (by simpa using h),List.length_cons,CF (l:=l) (i:=i) (by simpa using hi) (fun j hj hji=>by have:=h1 (j+1) (by simpa using hj) omA;simpa using this) (fun h=>by have:=h2 (by simpa using h);simpa using this)]
theorem pV{l:List aJ}{key:Val}{i:Nat}(hi:i≤l.length)(hlo:∀j (h:j<l.length),j<i→0<aT key (aA l[j]))(hhi:∀h:i<l.length,aT key (aA l[i])≤0):cK l key=i:=by
 unfold cK
 refine CF hi (fun j h hji =>?_) (fun h =>?_)
 ·have h1:=hlo j h hji
  have h2:=bF.mX key (aA l[j])
  exact decide_eq_true omA
 ·have h1:=hhi h
  have h2:=bF.mX key (aA l[i])
  exact decide_eq_false omA
theorem aV.mono{l:List aJ}(h:aV l){key:Val}{i j:Nat}(hij:i<j)(hj:j<l.length)(hc:aT key (aA (l[i]' omA))≤0):aT key (aA l[j])<0:=by
 have h1:=List.pairwise_iff_getElem.1 h.asc i j omA hj hij
 have h2:=bF.mX key (aA (l[i]' omA))
 have h3:=bF.trans (aA l[j]) (aA (l[i]' omA)) key
 have h4:=bF.mX (aA (l[i]' omA)) (aA l[j])
 have h5:=bF.mX key (aA l[j])
 rcases Int.lt_or_le (aT key (aA l[j])) 0 with h6|h6
 ·exact h6
 ·have h7:=bF.xQ h1 (z:=key) omA
  omega
theorem iP{l:List aJ}(h:aV l){key:Val}(hv:bK key=true){i:Nat}(hp:cK l key=i):di l key=true ↔ ∃hi:i<l.length,aT key (aA l[i])=0:=by
 unfold di
 rw[hp]
 constructor
 ·intro hf
  rcases Nat.lt_or_ge i l.length with hi|hi
  ·rw[List.getElem?_eq_getElem hi]at hf
   have e:aA l[i]=key:=by simpa using hf
   exact⟨hi,by rw[e];exact bF.refl key⟩
  ·rw[List.getElem?_eq_none hi]at hf
   cases hf
 ·rintro⟨hi,hc⟩
  rw[List.getElem?_eq_getElem hi]
  exact decide_eq_true (iQ hv (h.val _ (lgm hi)) hc).symm
theorem qb{r:aJ}{key:Val}(h:0<r.1.length):r.1.head?=some key↔aA r=key:=by
 obtain⟨a,b⟩:=r
 cases a with
 | nil=>simp at h
 | cons u us=>simp[aA]
theorem jS{l:List aJ}(h:aV l){key:Val}(hv:bK key=true)(hk:key.kind≠0)(hf:di l key=true):dz l key=(cK l key:Int):=by
 obtain⟨hi,hc⟩:=(iP h hv rfl).1 hf
 unfold dz
 rw[if_pos (by rw[hv];simpa using hk)]
 refine rD hi ?_ fun j hj hji =>?_
 ·have e:=iQ hv (h.val _ (lgm hi)) hc
  exact decide_eq_true ((qb (h.row _ (lgm hi))).2 e.symm)
 ·rw[decide_eq_false_iff_not,qb (h.row _ (lgm hj))]
  intro e
  have h1:=List.pairwise_iff_getElem.1 h.asc j (cK l key) hj hi hji
  rw[e]at h1
  omega
theorem jF{l:List aJ}(h:aV l){key:Val}(hv:bK key=true)(hf:di l key=false):dz l key<0:=by
 rcases Int.lt_or_le (dz l key) 0 with h1|h1
 ·exact h1
 exfalso
 unfold dz at h1
 split at h1
 ·rename_i hc
  obtain⟨m,hm,he,hp⟩:=vR h1
  have e:aA l[m]=key:=(qb (h.row _ (lgm hm))).1 (by simpa using hp)
  have hpl:cK l key=m:=pV omA (fun j hj hji=>by
   have h2:=List.pairwise_iff_getElem.1 h.asc j m hj hm hji
   rw[e]at h2
   have h3:=bF.mX key (aA l[j])
   omega) (fun _=>by rw[e,bF.refl];exact Int.le_refl _)
  have h4:=(iP h hv hpl).2 ⟨hm,by rw[e];exact bF.refl key⟩
  rw[h4]at hf
  cases hf
 ·omega
theorem mh{l:List aJ}(h:aV l){x:Chg}(hk1:x.kind=1)(hv:bK (keyOf x)=true)(hf:di l (keyOf x)=false)(hl:l.length<64):bB l x=l.take (cK l (keyOf x))++fA x::l.drop (cK l (keyOf x)):=by
 rw[kI hk1 (jF h hv hf) omA]
 unfold mr
 rw[xK,←kr hk1,List.append_assoc]
 rfl
theorem iZ{l:List aJ}(h:aV l){x:Chg}(hk1:x.kind=1)(hv:bK (keyOf x)=true)(hf:di l (keyOf x)=false)(hl:64≤l.length):bB l x=l:=xL hk1 (jF h hv hf) hl
theorem xu{α:Type}{l:List α}{i:Nat}(hi:i<l.length)(y:α):l.set i y=l.take i++y::l.drop (i+1):=by
 rw[List.set_eq_take_append_cons_drop,if_pos hi]
theorem mg{l:List aJ}(h:aV l){x:Chg}(hk1:x.kind=1)(hv:bK (keyOf x)=true)(hkk:(keyOf x).kind≠0)(hf:di l (keyOf x)=true):bB l x=l.set (cK l (keyOf x)) (fA x):=by
 rw[pW hk1 (jS h hv hkk hf)]
 obtain⟨i,hie⟩:∃i,cK l (keyOf x)=i:=⟨_,rfl⟩
 obtain⟨hi,hc⟩:=(iP h hv hie).1 hf
 rw[hie]
 have hlen:(l.take i).length=i:=by rw[List.length_take];omega
 have hp:gP (ik l i) (fA x)=i:=by
  rw[xK,←kr hk1]
  refine pV (by unfold ik;simp;omega) (fun j hj hji =>?_) (fun hj =>?_)
  ·have hjl:j<l.length:=by omega
   have e0:(ik l i)[j]?=l[j]?:= by
    unfold ik
    rw[List.getElem?_append_left (by rw[hlen];exact hji),List.getElem?_take_of_lt hji]
   rw[List.getElem?_eq_getElem hj,List.getElem?_eq_getElem hjl]at e0
   have e1:=Option.some.inj e0
   rw[e1]
   have h2:=List.pairwise_iff_getElem.1 h.asc j i hjl hi hji
   have h3:=bF.mX (aA l[j]) (aA l[i])
   have h4:keyOf x=aA l[i]:=by
    have:=iQ hv (h.val _ (lgm hi)) hc
    exact this
   rw[h4]
   omega
  ·have hjl:i+1<l.length:=by unfold ik at hj;simp at hj;omega
   have e0:(ik l i)[i]?=l[i+1]?:= by
    unfold ik
    rw[List.getElem?_append_right (by rw[hlen];exact Nat.le_refl _),hlen,List.getElem?_drop]
    congr 1
    omega
   rw[List.getElem?_eq_getElem hj,List.getElem?_eq_getElem hjl]at e0
   have e1:=Option.some.inj e0
   rw[e1]
   exact Int.le_of_lt (h.mono (Nat.lt_succ_self i) hjl omA)
 unfold mr
 rw[hp,xu hi]
 have t1:(ik l i).take i=l.take i:=by unfold ik;exact List.take_left' hlen
 have t2:(ik l i).drop i=l.drop (i+1):=by unfold ik;exact List.drop_left' hlen
 rw[t1,t2,List.append_assoc]
 rfl
theorem nK{l:List aJ}(h:aV l){x:Chg}(hk3:x.kind=3)(hv:bK (keyOf x)=true)(hkk:(keyOf x).kind≠0)(hf:di l (keyOf x)=true):bB l x=ik l (cK l (keyOf x)):=kJ omA omA (jS h hv hkk hf)
theorem nJ{l:List aJ}(h:aV l){x:Chg}(hk2:x.kind=2)(hv:bK (keyOf x)=true)(hkk:(keyOf x).kind≠0)(hf:di l (keyOf x)=true):bB l x=qm l (cK l (keyOf x)) x:=kH hk2 (jS h hv hkk hf)
theorem iB{l:List aJ}(h:aV l){x:Chg}(hk1:x.kind≠1)(hv:bK (keyOf x)=true)(hf:di l (keyOf x)=false):bB l x=l:=gQ hk1 (jF h hv hf)
theorem kX{ts:List Tab}{x:Chg}(h:aY ts x=0)(hok:aR ts):bK (keyOf x)=true∧(keyOf x).kind≠0:=by
 obtain⟨h1,h2,_,_,_⟩:=pq h
 refine⟨?_,h2⟩
 obtain⟨k,hin⟩:=gF h
 rcases hin.kind with hk1|hk2|hk3
 ·have hi:=kY h hk1 hin
  rw[kr hk1,jE (by rw[hi.len];exact(hok.ae hin.lt).1)]
  exact hi.vals _ (lgm _)
 ·unfold bE at h1
  rw[Bool.or_eq_false_iff]at h1
  have hb:=h1.2
  have e1:(x.kind == 1)=false:=by rw[hk2];rfl
  have e2:(x.kind == 2)=true:=by rw[hk2];rfl
  rw[e1,if_neg (by decide),e2,if_pos rfl]at hb
  unfold dC at hb
  simp only[Bool.or_eq_false_iff,Bool.not_eq_false']at hb
  unfold keyOf
  rw[if_neg (by rw[e1];decide)]
  exact hb.1.1.2
 ·unfold bE at h1
  rw[Bool.or_eq_false_iff]at h1
  have hb:=h1.2
  have e1:(x.kind == 1)=false:=by rw[hk3];rfl
  have e2:(x.kind == 2)=false:=by rw[hk3];rfl
  rw[e1,if_neg (by decide),e2,if_neg (by decide)]at hb
  unfold dW at hb
  simp only[Bool.or_eq_false_iff,Bool.not_eq_false']at hb
  unfold keyOf
  rw[if_neg (by rw[e1];decide)]
  exact hb.2
theorem aV.sub{l l':List aJ}(h:aV l)(hs:l'.Sublist l):aV l':=⟨fun r hr=>h.row r (hs.subset hr),fun r hr=>h.val r (hs.subset hr),h.asc.sublist hs⟩
theorem DY(l:List aJ)(j:Nat):(ik l j).Sublist l:=by
 have h1:(l.drop (j+1)).Sublist (l.drop j):=by rw[←List.drop_drop];exact List.drop_sublist _ _
 have h2:=(List.Sublist.refl (l.take j)).append h1
 rwa [List.take_append_drop]at h2
theorem J5{x:Chg}{c:Nat}(hx:x.column=(c:Int))(hc:0<c)(a:aJ):aA (a.1.set x.column.toNat x.val,a.2.1.set x.column.toNat x.seq,a.2.2)=aA a:=by
 obtain⟨a,b,d⟩:=a
 rw[hx,Int.toNat_natCast]
 unfold aA
 cases a with
 | nil=>rfl
 | cons u us=>rw[show c=(c-1)+1 by omega];rfl
theorem aV.upd{l:List aJ}(h:aV l)(j:Nat){x:Chg}{c:Nat}(hx:x.column=(c:Int))(hc:0<c):aV (qm l j x):=by
 unfold qm
 split
 ·rename_i r hr
  obtain⟨hj,rfl⟩:=List.getElem?_eq_some_iff.1 hr
  have hK:=J5 hx hc
  refine⟨fun y hy =>?_,fun y hy =>?_,?_⟩
  ·rcases List.mem_or_eq_of_mem_set hy with h1|rfl
   ·exact h.row y h1
   ·simpa using h.row _ (lgm hj)
  ·rcases List.mem_or_eq_of_mem_set hy with h1|rfl
   ·exact h.val y h1
   ·rw[hK];exact h.val _ (lgm hj)
  ·rw[List.pairwise_iff_getElem]
   intro a b ha hb hab
   have h1:=List.pairwise_iff_getElem.1 h.asc a b (by simpa using ha) (by simpa using hb) hab
   rw[List.getElem_set,List.getElem_set]
   split
   ·rename_i e;subst e;rw[hK,if_neg omA];exact h1
   ·split
    ·rename_i e;subst e;rw[hK];exact h1
    ·exact h1
 ·exact h
theorem aV.ins{l:List aJ}(h:aV l){r:aJ}(h0:0<r.1.length)(hv:bK (aA r)=true)(hne:∀y∈l,aT (aA y) (aA r)≠0):aV (mr l r):=by
 have hp:=Ar l r
 refine⟨fun y hy =>?_,fun y hy =>?_,Ht h.asc hne⟩
 ·rcases List.mem_cons.1 (hp.mem_iff.1 hy) with rfl|h1
  ·exact h0
  ·exact h.row y h1
 ·rcases List.mem_cons.1 (hp.mem_iff.1 hy) with rfl|h1
  ·exact hv
  ·exact h.val y h1
theorem aV.uB{l:List aJ}(h:aV l){ts:List Tab}{x:Chg}(hf:aY ts x=0)(hok:aR ts):aV (bB l x):=by
 obtain⟨k,hin⟩:=gF hf
 obtain⟨hv,hk⟩:=kX hf hok
 have hpos:=(hok.ae hin.lt).1
 rcases hin.kind with hk1|hk2|hk3
 ·have hi:=kY hf hk1 hin
  have hr0:0<(fA x).1.length:=by show 0<x.row.length;rw[hi.len];exact hpos
  have hke:=kr hk1
  have hne:∀l',aV l'→(∀y∈l',aA y≠keyOf x)→∀y∈l',aT (aA y) (aA (fA x))≠0:=fun l' h' hn y hy e=>hn y hy (iQ (h'.val y hy) hv (by rw[hke];exact e))
  cases hfd:di l (keyOf x)
  ·rcases Nat.lt_or_ge l.length 64 with hl|hl
   ·rw[kI hk1 (jF h hv hfd) omA]
    refine h.ins hr0 (by rw[←hke];exact hv) (hne l h fun y hy e =>?_)
    have h1:=jF h hv hfd
    unfold dz at h1
    rw[if_pos (by rw[hv];simpa using hk)]at h1
    have h2:=vQ h1 y hy
    rw[decide_eq_false_iff_not]at h2
    exact h2 ((qb (h.row y hy)).2 e)
   ·rw[iZ h hk1 hv hfd hl];exact h
  ·rw[pW hk1 (jS h hv hk hfd)]
   have hs:=h.sub (DY l (cK l (keyOf x)))
   refine hs.ins hr0 (by rw[←hke];exact hv) (hne _ hs fun y hy e =>?_)
   obtain⟨hi,hc⟩:=(iP h hv rfl).1 hfd
   have e2:=iQ hv (h.val _ (lgm hi)) hc
   unfold ik at hy
   rcases List.mem_append.1 hy with h1|h1
   ·obtain⟨j,hj,rfl⟩:=List.getElem_of_mem h1
    rw[List.length_take]at hj
    rw[List.getElem_take]at e
    have h3:=List.pairwise_iff_getElem.1 h.asc j (cK l (keyOf x)) omA hi omA
    rw[e,←e2,bF.refl]at h3
    omega
   ·obtain⟨j,hj,rfl⟩:=List.getElem_of_mem h1
    rw[List.length_drop]at hj
    rw[List.getElem_drop]at e
    have h3:=List.pairwise_iff_getElem.1 h.asc (cK l (keyOf x)) (cK l (keyOf x)+1+j) hi omA omA
    rw[e,←e2,bF.refl]at h3
    omega
 ·obtain⟨c,hu⟩:=pg hf hk2 hin
  by_cases hz:dz l (keyOf x)<0
  ·rw[gQ omA hz];exact h
  ·obtain⟨j,hj,he⟩:=iG (Int.not_lt.1 hz)
   rw[kH hk2 he]
   exact h.upd j hu.col hu.pos
 ·by_cases hz:dz l (keyOf x)<0
  ·rw[gQ omA hz];exact h
  ·obtain⟨j,hj,he⟩:=iG (Int.not_lt.1 hz)
   rw[kJ omA omA he]
   exact h.sub (DY l j)
def lC(pl:List (List aJ)):Prop:= ∀l∈pl,aV l
theorem aV.nil:aV []:=⟨fun r hr=>(by cases hr),fun r hr=>(by cases hr),List.Pairwise.nil⟩
theorem lC.zero(n:Nat):lC (List.replicate n []):=fun l hl=>by rw[(List.mem_replicate.1 hl).2];exact aV.nil
theorem lC.tab{pl:List (List aJ)}(h:lC pl)(k:Int):aV (nz pl k):=by
 unfold nz
 split
 ·rename_i l hl
  exact h l (List.mem_of_getElem? hl)
 ·exact aV.nil
theorem lC.uB{pl:List (List aJ)}(h:lC pl){ts:List Tab}{x:Chg}(hf:aY ts x=0)(hok:aR ts):lC (aK pl x):=fun l hl=>by
 unfold aK at hl
 rcases List.mem_or_eq_of_mem_set hl with h1|rfl
 ·exact h l h1
 ·exact(h.tab _).uB hf hok
theorem POk.keys{ts:List Tab}{pl:List (List aJ)}(h:POk ts pl)(hok:aR ts):lC pl:=fun l hl=>by
 obtain⟨i,hi,rfl⟩:=List.getElem_of_mem hl
 have hi':i<ts.length:=by have:=h.len;omega
 exact(h.tab i hi hi').keys (hok.ae hi').1
def ko(m:Nat)(x:Chg):Bool:=decide (x.seq<1)||(decide (1073741824<x.seq)||(decide (x.day<0)||(decide (1048576<x.day)||(decide (x.table<0)||decide ((m:Int)≤x.table)))))
noncomputable def jD(ae:List Col)(x:Chg):Int:=if dD ae.length x=true then 1 else if ((keyOf x).kind == 0)=true then 6 else if pb (fH ae x.row)=false then 5 else 0
noncomputable def l8(ae:List Col)(x:Chg):Int:=if dC ae.length x=true then 1 else if (x.key.kind == 0)=true then 6 else if (!dw x.val (nZ ae x.column)||x.key.kind != nZ ae 0)=true then 5 else if pb (cZ ae x.column)=true then 11 else 0
def mD(ae:List Col)(x:Chg):Int:=if dW x=true then 1 else if (x.key.kind == 0)=true then 6 else if (x.key.kind != nZ ae 0)=true then 5 else 0
theorem nS{m:Nat}{x:Chg}:eF m x=(!aB x.kind 1 3||ko m x):=by
 unfold eF ko aB
 by_cases h1:1≤x.kind<;>by_cases h2:x.kind≤3<;>by_cases h3:1≤x.seq<;>by_cases h4:x.seq≤1073741824<;>by_cases h5:0≤x.day<;>by_cases h6:x.day≤1048576<;>by_cases h7:0≤x.table<;>by_cases h8:x.table≤(m:Int)-1<;>simp[h1,h2,h3,h4,h5,h6,h7,h8]<;>omega
theorem I5{ts:List Tab}{x:Chg}(h:ko ts.length x=true):aY ts x=1:=by
 unfold aY
 rw[if_pos]
 unfold bE
 rw[nS,h]
 simp
theorem I6{ts:List Tab}{x:Chg}(h1:x.kind≠1)(h2:x.kind≠2)(h3:x.kind≠3):aY ts x=1:=by
 unfold aY
 rw[if_pos]
 unfold bE
 rw[nS]
 have:aB x.kind 1 3=false:=by
  unfold aB
  by_cases h4:1≤x.kind<;>by_cases h5:x.kind≤3<;>simp[h4,h5]
  omega
 rw[this]
 simp
section
variable {ts:List Tab}{x:Chg}{k:Nat}
theorem BX(h:ko ts.length x=false)(hk:x.kind=1∨x.kind=2∨x.kind=3):eF ts.length x=false:=by
 rw[nS,h]
 have:aB x.kind 1 3=true:=by rcases hk with h|h|h<;>rw[h]<;>decide
 rw[this]
 rfl
theorem DR(h:ko ts.length x=false)(hk:x.kind=1)(ht:x.table=(k:Int))(hkt:k<ts.length)(h0:0<ts[k].ae.length):aY ts x=jD ts[k].ae x:=by
 have hh:=BX h (.inl hk)
 have e1:(x.kind == 1)=true:=by rw[hk];rfl
 have e2:(x.kind == 2)=false:=by rw[hk];rfl
 have hinv:bE ts x=dD ts[k].ae.length x:=by
  unfold bE
  rw[hh,e1,ht,bV hkt]
  rfl
 unfold aY jD iL
 rw[hinv,e2,ht,bV hkt]
 simp only[Bool.false_and,Bool.or_false,Bool.false_eq_true,if_false]
 split
 ·rfl
 rename_i hb
 split
 ·rfl
 split
 ·rfl
 rename_i hr
 have hr:fH ts[k].ae x.row:=mi.1 (by simpa using hr)
 have hlen:x.row.length=ts[k].ae.length:=by
  unfold dD at hb
  simp only[Bool.not_eq_true,Bool.or_eq_false_iff]at hb
  have:=hb.1.2
  have:((x.row.length:Int)=(ts[k].ae.length:Int)):=by simpa using this
  omega
 have hl0:0<x.row.length:=by omega
 have hkey:keyOf x=x.row[0]:=by rw[kr hk,jE hl0]
 have hty:=hr 0 hl0 h0
 rw[if_neg]
 rw[hkey,show (0:Int)=((0:Nat):Int) from rfl,kQ h0,hty]
 decide
theorem zV{v:Val}{t:Int}(h:(v.kind == 0)=false):(!dw v t)=(v.kind != t):=by
 unfold dw
 rw[h]
 simp[bne]
theorem DN(h:ko ts.length x=false)(hk:x.kind=2)(ht:x.table=(k:Int))(hkt:k<ts.length):aY ts x=l8 ts[k].ae x:=by
 have hh:=BX h (.inr (.inl hk))
 have e1:(x.kind == 1)=false:=by rw[hk];rfl
 have e2:(x.kind == 2)=true:=by rw[hk];rfl
 have ek:keyOf x=x.key:=by unfold keyOf;rw[e1,if_neg (by decide)]
 have hinv:bE ts x=dC ts[k].ae.length x:=by
  unfold bE
  rw[hh,e1,e2,ht,bV hkt]
  rfl
 unfold aY l8 iL
 rw[hinv,e2,ht,bV hkt,ek]
 simp only[Bool.true_and]
 split
 ·rfl
 rename_i hb
 split
 ·rfl
 rename_i hz
 have hz:(x.key.kind == 0)=false:=by simpa using hz
 have hrow:x.row=[]:=by
  unfold dC at hb
  simp only[Bool.not_eq_true,Bool.or_eq_false_iff]at hb
  have:=hb.1.1.1
  have:¬ 0<x.row.length:=by simpa using this
  exact List.eq_nil_of_length_eq_zero omA
 have hr:pb (fH ts[k].ae x.row)=true:=bS fun i h _=>by rw[hrow]at h;simp at h
 rw[hr,zV hz,Bool.or_comm]
 simp
theorem DT(h:ko ts.length x=false)(hk:x.kind=3)(ht:x.table=(k:Int))(hkt:k<ts.length):aY ts x=mD ts[k].ae x:=by
 have hh:=BX h (.inr (.inr hk))
 have e1:(x.kind == 1)=false:=by rw[hk];rfl
 have e2:(x.kind == 2)=false:=by rw[hk];rfl
 have ek:keyOf x=x.key:=by unfold keyOf;rw[e1,if_neg (by decide)]
 have hinv:bE ts x=dW x:=by
  unfold bE
  rw[hh,e1,e2,ht]
  rfl
 unfold aY mD iL
 rw[hinv,e2,ht,bV hkt,ek]
 simp only[Bool.false_and,Bool.or_false]
 split
 ·rfl
 rename_i hb
 split
 ·rfl
 rename_i hz
 have hz:(x.key.kind == 0)=false:=by simpa using hz
 have hrow:x.row=[]:=by
  unfold dW at hb
  simp only[Bool.not_eq_true,Bool.or_eq_false_iff]at hb
  have:=hb.1.1.1
  have:¬ 0<x.row.length:=by simpa using this
  exact List.eq_nil_of_length_eq_zero omA
 have hr:pb (fH ts[k].ae x.row)=true:=bS fun i h _=>by rw[hrow]at h;simp at h
 rw[hr,zV hz]
 simp
end
end Go.Proofs.YtjidligipoldeaaGreat
