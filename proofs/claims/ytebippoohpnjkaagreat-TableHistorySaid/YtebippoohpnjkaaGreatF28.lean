/-
  Contracts and plain laws of this seat, part 28.
-/
import Derived.Test.YtebippoohpnjkaaGreatF17
set_option linter.unusedVariables false
set_option linter.unusedSimpArgs false
set_option maxRecDepth 100000
set_option maxHeartbeats 16000000
namespace Go.Proofs.YtebippoohpnjkaaGreat
open Go.RowKit
theorem dq{P:Prop}(h:P:=by simpa using hk):P:=h
theorem dr{P:Prop}(h:P:=by simpa using hi):P:=h
theorem kR{x y:Val}(hx:bK x=true)(hy:bK y=true)(h:aW x y=0):x=y:=by
 rw[qO,kT hx,kT hy]at h
 exact BG h
def og(r:bu):Int:=r.2.1.headD 0
structure iI (af:List Col) (l:List bu):Prop where
 len:l.length≤64
 rcd:∀r∈l,gG af r.1 r.2.1 r.2.2
 asc:l.Pairwise (fun a b=>aW (aT a) (aT b)<0)
 own:l.Pairwise (fun a b=>og a≠og b)
structure POk (ts:List Tab) (pl:List (List bu)):Prop where
 len:pl.length=ts.length
 tab:∀i (h:i<pl.length) (h':i<ts.length),iI ts[i].af pl[i]
theorem FC{l:List bu}(h:∀k (hk:k<l.length) (h0:0<k),aW (aT (l[k-1]' omA)) (aT l[k])<0):l.Pairwise (fun a b=>aW (aT a) (aT b)<0):=by
 rw[List.pairwise_iff_getElem]
 intro i j hi hj hij
 obtain⟨d,rfl⟩:∃d,j=i+1+d:=⟨j-(i+1),by omega⟩
 clear hij
 induction d with
 | zero=>exact h (i+1) hj omA
 | succ d ih =>
   have h1:=ih omA
   have h2:=h (i+1+(d+1)) hj omA
   have e:l[i+1+(d+1)-1]' omA=l[i+1+d]' omA:=by congr 1
   rw[e]at h2
   exact dB.Cw h1 omA
theorem zT{α:Type}{p:α→Bool}:∀ {l:List α}{y:α},y∈l.takeWhile p→p y=true
 | [],_,h=>by cases h
 | a::l,y,h=>by
   rw[List.takeWhile_cons]at h
   split at h
   ·rename_i ha
    rcases List.mem_cons.1 h with rfl|h1
    ·exact ha
    ·exact zT h1
   ·cases h
theorem RTabOk.pure{af:List Col}{recs:List Rcd}(h:RTabOk af recs):iI af (recs.map aQ):=by
 refine⟨by simpa using h.len,fun r hr =>?_,FC fun k hk h0 =>?_,?_⟩
 ·obtain⟨x,hx,rfl⟩:=List.mem_map.1 hr
  obtain⟨j,hj,rfl⟩:=List.getElem_of_mem hx
  exact(h.at_ j hj).ok
 ·have hk':k<recs.length:=by simpa using hk
  rw[List.getElem_map,List.getElem_map]
  exact(h.at_ k hk').asc h0
 ·rw[List.pairwise_iff_getElem]
  intro i j hi hj hij
  rw[List.getElem_map,List.getElem_map]
  have hj':j<recs.length:=by simpa using hj
  exact(h.at_ j hj').own i hij
theorem iI.back{af:List Col}{recs:List Rcd}(h:iI af (recs.map aQ)):RTabOk af recs:=by
 refine⟨by simpa using h.len,fun k hk=>⟨h.rcd (aQ recs[k]) (List.mem_map_of_mem (lgm hk)),fun h0 =>?_,fun j hj =>?_⟩⟩
 ·have h1:=List.pairwise_iff_getElem.1 h.asc (k-1) k smA dq omA
  rw[List.getElem_map,List.getElem_map]at h1
  exact h1
 ·have h1:=List.pairwise_iff_getElem.1 h.own j k smA dq hj
  rw[List.getElem_map,List.getElem_map]at h1
  exact h1
theorem bf.pure{ts:List Tab}{rt:List RTab}(h:bf ts rt):POk ts (rt.map aB):=
 ⟨by simpa using h.len,fun i hi hi'=>by rw[List.getElem_map];exact(h.tab i dr hi').pure⟩
theorem POk.back{ts:List Tab}{rt:List RTab}(hok:aV ts)(h:POk ts (rt.map aB)):bf ts rt:=
 ⟨hok,by simpa using h.len,fun i hi hi'=>by have h1:=h.tab i dr hi';rw[List.getElem_map]at h1;exact h1.back⟩
theorem POk.zero(ts:List Tab):POk ts (List.replicate ts.length []):=
 ⟨by simp,fun i hi hi'=>by rw[List.getElem_replicate];exact⟨by simp,fun r hr=>(by cases hr),List.Pairwise.nil,List.Pairwise.nil⟩⟩
theorem iI.cut{af:List Col}{l:List bu}(h:iI af l)(j:Nat):iI af (jv l j):=by
 have hs:(jv l j).Sublist l:=by
  have h1:(l.drop (j+1)).Sublist (l.drop j):=by rw[←List.drop_drop];exact List.drop_sublist _ _
  have h2:=(List.Sublist.refl (l.take j)).append h1
  rwa [List.take_append_drop]at h2
 exact⟨Nat.le_trans hs.length_le h.len,fun r hr=>h.rcd r (hs.subset hr),h.asc.sublist hs,h.own.sublist hs⟩
theorem zV(l:List bu)(r:bu):(mo l r).Perm (r::l):=by
 unfold mo
 have h1:= @List.perm_middle _ r (l.take (iq l r)) (l.drop (iq l r))
 rw[List.take_append_drop]at h1
 simpa using h1
theorem Gy{l:List bu}(h:l.Pairwise (fun a b=>aW (aT a) (aT b)<0)){r:bu}(hne:∀y∈l,aW (aT y) (aT r)≠0):(mo l r).Pairwise (fun a b=>aW (aT a) (aT b)<0):=by
 have hlt:∀y∈l.take (iq l r),aW (aT y) (aT r)<0:=by
  intro y hy
  have e:l.take (iq l r)=l.takeWhile fun y=>decide (aW (aT y) (aT r)<0):=by
   conv=>lhs;arg 2;rw[←List.takeWhile_append_dropWhile (p:=fun y=>decide (aW (aT y) (aT r)<0)) (l:=l)]
   exact List.take_left' rfl
  rw[e]at hy
  have h1:=zT hy
  simpa using h1
 have hge:∀y∈l.drop (iq l r),aW (aT r) (aT y)<0:=by
  have e:l.drop (iq l r)=l.dropWhile fun y=>decide (aW (aT y) (aT r)<0):=by
   conv=>lhs;arg 2;rw[←List.takeWhile_append_dropWhile (p:=fun y=>decide (aW (aT y) (aT r)<0)) (l:=l)]
   exact List.drop_left' rfl
  have hd:(l.drop (iq l r)).Pairwise (fun a b=>aW (aT a) (aT b)<0):=h.sublist (List.drop_sublist _ _)
  have hm:∀y∈l.drop (iq l r),y∈l:=fun y hy=>List.mem_of_mem_drop hy
  cases hc:l.drop (iq l r) with
  | nil=>intro y hy;cases hy
  | cons z zs =>
    have hz:¬ aW (aT z) (aT r)<0:=by
     have h1:(l.dropWhile fun y=>decide (aW (aT y) (aT r)<0)).head?=some z:=by rw[←e,hc];rfl
     have h2:=List.head?_dropWhile_not (fun y=>decide (aW (aT y) (aT r)<0)) l
     rw[h1]at h2
     simpa using h2
    rw[hc]at hd hm
    have hz0:=hne z (hm z spA)
    have ha:=dB.qy (aT z) (aT r)
    intro y hy
    rcases List.mem_cons.1 hy with rfl|hy
    ·omega
    ·have h3:=(List.pairwise_cons.1 hd).1 y hy
     have h4:aW (aT r) (aT z)<0:=by omega
     exact dB.Cw h4 omA
 unfold mo
 rw[List.append_assoc]
 refine List.pairwise_append.2 ⟨h.sublist (List.take_sublist _ _),List.pairwise_append.2 ⟨List.pairwise_singleton _ _,h.sublist (List.drop_sublist _ _),fun a ha b hb =>?_⟩,fun a ha b hb =>?_⟩
 ·rw[List.mem_singleton.1 ha];exact hge b hb
 ·rcases List.mem_append.1 hb with h1|h1
  ·rw[List.mem_singleton.1 h1];exact hlt a ha
  ·exact dB.Cw (hlt a ha) (by have:=hge b h1;omega)
theorem iI.ins{af:List Col}{l:List bu}(h:iI af l)(hl:l.length<64){r:bu}(hr:gG af r.1 r.2.1 r.2.2)(hne:∀y∈l,aW (aT y) (aT r)≠0)(hown:∀y∈l,og y≠og r):iI af (mo l r):=by
 have hp:=zV l r
 refine⟨by rw[hp.length_eq,List.length_cons];omega,fun y hy =>?_,Gy h.asc hne,?_⟩
 ·rcases List.mem_cons.1 (hp.mem_iff.1 hy) with rfl|h1
  ·exact hr
  ·exact h.rcd y h1
 ·refine(List.Perm.pairwise_iff (fun {a b} (h:og a≠og b)=>Ne.symm h) hp).2 (List.pairwise_cons.2 ⟨fun y hy=>(hown y hy).symm,h.own⟩)
theorem iI.upd{af:List Col}{l:List bu}(h:iI af l)(j:Nat){x:Chg}{c:Nat}(hx:x.column=(c:Int))(hc0:0<c)(hc:c<af.length)(hv:bK x.val=true)(ht:di x.val af[c].ty=true)(hs:aD x.seq 1 1073741824=true)(hlast:∀r∈l,∀s∈r.2.1,s≤x.seq):iI af (uh l j x):=by
 unfold uh
 split
 ·rename_i r hr
  have hm:=List.mem_of_getElem? hr
  obtain⟨hj,rfl⟩:=List.getElem?_eq_some_iff.1 hr
  have h0:=h.rcd _ hm
  rw[hx,Int.toNat_natCast]
  have hP:∀(a:bu),aT (a.1.set c x.val,a.2.1.set c x.seq,a.2.2)=aT a:=by
   rintro⟨a,b,d⟩
   unfold aT
   cases a with
   | nil=>rfl
   | cons u us=>rw[show c=(c-1)+1 by omega];rfl
  have hQ:∀(a:bu),og (a.1.set c x.val,a.2.1.set c x.seq,a.2.2)=og a:=by
   rintro⟨a,b,d⟩
   unfold og
   cases b with
   | nil=>rfl
   | cons u us=>rw[show c=(c-1)+1 by omega];rfl
  refine⟨by simpa using h.len,fun y hy =>?_,?_,?_⟩
  ·rcases List.mem_or_eq_of_mem_set hy with h1|rfl
   ·exact h.rcd y h1
   ·refine⟨by simpa using h0.len,by simpa using h0.wQ,h0.day,fun i hi =>?_,fun hk =>?_⟩
    ·have hci:=h0.cell i hi
     refine⟨fun hl =>?_,fun hl hk =>?_,fun hl =>?_,fun hl hl0 =>?_⟩
     ·rw[List.getElem_set]
      split
      ·exact hv
      ·exact hci.val (by simpa using hl)
     ·rw[List.getElem_set]
      split
      ·rename_i he
       subst he
       exact ht
      ·exact hci.typ (by simpa using hl) hk
     ·rw[List.getElem_set]
      split
      ·exact hs
      ·exact hci.pos (by simpa using hl)
     ·rw[List.getElem_set,List.getElem_set,if_neg omA]
      have hl':i<l[j].2.1.length:=by simpa using hl
      have hl0':0<l[j].2.1.length:=by simpa using hl0
      split
      ·exact hlast _ (lgm hj) _ (lgm hl0')
      ·exact hci.asc hl' hl0'
    ·rw[List.getElem_set,if_neg omA]
     exact h0.key dq
  ·rw[List.pairwise_iff_getElem]
   intro a b ha hb hab
   have h1:=List.pairwise_iff_getElem.1 h.asc a b (by simpa using ha) (by simpa using hb) hab
   rw[List.getElem_set,List.getElem_set]
   split
   ·rename_i e;subst e;rw[hP,if_neg omA];exact h1
   ·split
    ·rename_i e;subst e;rw[hP];exact h1
    ·exact h1
  ·rw[List.pairwise_iff_getElem]
   intro a b ha hb hab
   have h1:=List.pairwise_iff_getElem.1 h.own a b (by simpa using ha) (by simpa using hb) hab
   rw[List.getElem_set,List.getElem_set]
   split
   ·rename_i e;subst e;rw[hQ,if_neg omA];exact h1
   ·split
    ·rename_i e;subst e;rw[hQ];exact h1
    ·exact h1
 ·exact h
theorem xI:∀(l:List Int) (a:Int),a≤l.foldl max a ∧ ∀x∈l,x≤l.foldl max a
 | [],a=>⟨Int.le_refl _,fun x hx=>by cases hx⟩
 | y::l,a=>by
   have h:=xI l (max a y)
   rw[List.foldl_cons]
   refine⟨by have:=h.1;omega,fun x hx =>?_⟩
   rcases List.mem_cons.1 hx with rfl|hx
   ·have:=h.1;omega
   ·exact h.2 x hx
theorem le_last{rt:List RTab}{t:RTab}(ht:t∈rt){r:Rcd}(hr:r∈t.recs){s:Int}(hs:s∈r.seq):s≤fH rt:=by
 unfold fH nV
 refine(xI _ 0).2 s ?_
 unfold j4
 exact List.mem_flatMap.2 ⟨t,ht,List.mem_flatMap.2 ⟨r,hr,hs⟩⟩
theorem vQ{α:Type}{p:α→Bool}{l:List α}(h:iF p l<0):∀y∈l,p y=false:=by
 unfold iF at h
 split at h
 ·omega
 ·rename_i hn
  intro y hy
  rw[List.findIdx?_eq_none_iff]at hn
  exact hn y hy
structure GN (ts:List Tab) (x:Chg) (k:Nat) (h:k<ts.length):Prop where
 len:x.row.length=ts[k].af.length
 vals:∀v∈x.row,bK v=true
 typ:fZ ts[k].af x.row
 day:aD x.day 0 1048576=true
 key:(keyOf x).kind≠0
structure Gz (ts:List Tab) (x:Chg) (k c:Nat) (h:k<ts.length):Prop where
 col:x.column=(c:Int)
 lt:c<ts[k].af.length
 pos:0<c
 val:bK x.val=true
 typ:di x.val ts[k].af[c].ty=true
theorem lW{ts:List Tab}{x:Chg}(h:bq ts x=0):bC ts x=false∧(keyOf x).kind≠0∧fZ (cz ts x.table) x.row∧iT (cz ts x.table) x=false∧(x.kind == 2&&pb (dz (cz ts x.table) x.column))=false:=by
 unfold bq at h
 split at h
 ·omega
 ·rename_i h1
  split at h
  ·omega
  ·rename_i h2
   split at h
   ·omega
   ·rename_i h3
    split at h
    ·omega
    ·rename_i h4
     split at h
     ·omega
     ·rename_i h5
      exact⟨by simpa using h1,by simpa using h2,iH.1 (by simpa using h3),by simpa using h4,by simpa using h5⟩
theorem tJ{ts:List Tab}{x:Chg}(h:bq ts x=0)(hk1:x.kind=1){k:Nat}(hin:iC ts x k):GN ts x k hin.lt:=by
 obtain⟨h1,h2,h3,h4,h5⟩:=lW h
 have hlt:=hin.lt
 unfold bC at h1
 rw[Bool.or_eq_false_iff]at h1
 obtain⟨hh,hb⟩:=h1
 have e1:(x.kind == 1)=true:=by simpa using hk1
 rw[e1,if_pos rfl]at hb
 unfold eO at hh
 unfold dP at hb
 simp only[Bool.or_eq_false_iff,Bool.not_eq_false']at hh hb
 have hr:=hb.2
 unfold uo at hr
 rw[Bool.and_eq_true,List.all_eq_true]at hr
 rw[hin.tab,cu hlt]at h3
 refine⟨by rw[hin.ins hk1,cu hlt],hr.2,h3,hh.1.2,h2⟩
theorem pF{ts:List Tab}{x:Chg}(h:bq ts x=0)(hk2:x.kind=2){k:Nat}(hin:iC ts x k):∃c,Gz ts x k c hin.lt:=by
 obtain⟨h1,h2,h3,h4,h5⟩:=lW h
 have hlt:=hin.lt
 obtain⟨c,hc,hcl⟩:=hin.upd hk2
 rw[cu hlt]at hcl
 unfold bC at h1
 rw[Bool.or_eq_false_iff]at h1
 obtain⟨hh,hb⟩:=h1
 have e1:(x.kind == 1)=false:=by rw[hk2];rfl
 have e2:(x.kind == 2)=true:=by rw[hk2];rfl
 rw[e1,if_neg (by decide),e2,if_pos rfl]at hb
 unfold dG at hb
 simp only[Bool.or_eq_false_iff,Bool.not_eq_false']at hb
 unfold iT at h4
 rw[e2,Bool.true_and,Bool.or_eq_false_iff,hin.tab,cu hlt,hc,kV hcl]at h4
 rw[e2,Bool.true_and,hin.tab,cu hlt,hc]at h5
 have h6:¬ dz ts[k].af (c:Int):=fun hf=>by rw[aU hf]at h5;cases h5
 refine⟨c,hc,hcl,?_,hb.2,by simpa using h4.2⟩
 rcases Nat.eq_zero_or_pos c with rfl|h0
 ·exact absurd (.inl rfl) h6
 ·exact h0
theorem PY{ts:List Tab}{x:Chg}{k:Nat}(hin:iC ts x k)(hlt:k<ts.length)(hk1:x.kind=1)(hi:GN ts x k hlt):gG ts[k].af (ik x).1 (ik x).2.1 (ik x).2.2:=by
 refine⟨hi.len,by simpa[ik]using hi.len,hi.day,fun i hic=>⟨fun h=>hi.vals _ (lgm h),fun h hc=>hi.typ i h hc,fun h =>?_,fun h h0 =>?_⟩,fun h =>?_⟩
 ·simp only[ik,List.getElem_replicate];exact hin.seq
 ·simp only[ik,List.getElem_replicate];exact Int.le_refl _
 ·have hk:=hi.key
  unfold keyOf at hk
  rw[if_pos (by simpa using hk1)]at hk
  have h0:0<x.row.length:=h
  have e:∀(l:List Val) (h:0<l.length),l.headD ⟨0,0,⟨#[]⟩⟩=l[0]:=fun l h=>by
   cases l with
   | nil=>simp at h
   | cons a t=>rfl
  rw[e _ h0]at hk
  exact hk
theorem lV{x:Chg}(hk:x.kind=1):keyOf x=aT (ik x):=by
 unfold keyOf aT ik
 rw[if_pos dq]
theorem Du{ts:List Tab}{rt:List RTab}{x:Chg}(h:eG ts rt x=0):POk ts (aP (rt.map aB) x):=by
 unfold eG at h
 split at h
 ·omega
 rename_i h1
 split at h
 ·rename_i h2;rw[h]at h2;simp at h2
 rename_i h2
 split at h
 ·omega
 rename_i h3
 have hok:bf ts rt:=iH.1 (by simpa using h1)
 have hf:bq ts x=0:=by simpa using h2
 have hlast:fH rt<x.seq:=by simpa using h3
 have hp:=hok.pure
 obtain⟨k,hin⟩:=gD hf
 have hlt:=hin.lt
 have hrl:=hok.len
 have hk:k<rt.length:=by omega
 have hkp:k<(rt.map aB).length:=by simpa using hk
 have htab:=hp.tab k hkp hlt
 have hsq:∀r∈(rt.map aB)[k],∀s∈r.2.1,s<x.seq:=by
  intro r hr s hs
  rw[List.getElem_map]at hr
  obtain⟨y,hy,rfl⟩:=List.mem_map.1 hr
  have:=le_last (lgm hk) hy hs
  omega
 have hfp:jB (je rt (k:Int)) (keyOf x)=dM (rt.map aB)[k] (keyOf x):=by rw[nH hk,fF,List.getElem_map];rfl
 have hln:(je rt (k:Int)).length=(rt.map aB)[k].length:=by rw[nH hk,List.getElem_map];simp[aB]
 have hpos:0<ts[k].af.length:=(hok.cat.af hlt).1
 have key:iI ts[k].af (cK (rt.map aB)[k] x):=by
  unfold eU at h
  rw[hin.tab,hfp,hln]at h
  rcases hin.kind with hk1|hk2|hk3
  ·have hi:=tJ hf hk1 hin
   have e1:(x.kind == 1)=true:=by simpa using hk1
   rw[e1]at h
   simp only[Bool.true_and]at h
   split at h
   ·omega
   rename_i h4
   split at h
   ·omega
   split at h
   ·omega
   split at h
   ·omega
   split at h
   ·omega
   rename_i h5
   have h4:dM (rt.map aB)[k] (keyOf x)<0:=by simpa using h4
   have h5:¬ 64≤(rt.map aB)[k].length:=by simpa using h5
   rw[mP hk1 h4 h5]
   have hvk:bK (keyOf x)=true:=by
    rw[lV hk1,jK (by rw[hi.len];exact hpos)]
    exact hi.vals _ (lgm _)
   refine htab.ins omA (PY hin hlt hk1 hi) (fun y hy he =>?_) (fun y hy he =>?_)
   ·have hy1:=htab.rcd y hy
    have hyl:0<y.1.length:=by rw[hy1.len];exact hpos
    have hyv:bK (aT y)=true:=by
     have e:aT y=y.1[0]:=by
      obtain⟨a,b⟩:=y
      cases a with
      | nil=>simp at hyl
      | cons u us=>rfl
     rw[e]
     exact(hy1.cell 0 hpos).val hyl
    rw[←lV hk1]at he
    have hee:=kR hyv hvk he
    unfold dM at h4
    rw[if_pos (by rw[hvk];simpa using hi.key)]at h4
    have h6:=vQ h4 y hy
    rw[decide_eq_false_iff_not]at h6
    refine h6 ?_
    rw[←hee]
    obtain⟨a,b⟩:=y
    cases a with
    | nil=>simp at hyl
    | cons u us=>rfl
   ·have hy1:=htab.rcd y hy
    have hyl:0<y.2.1.length:=by rw[hy1.wQ];exact hpos
    have h6:=hsq y hy y.2.1[0] (lgm hyl)
    have e:og y=y.2.1[0]:=by
     obtain⟨a,b,c⟩:=y
     cases b with
     | nil=>simp at hyl
     | cons u us=>rfl
    have e2:og (ik x)=x.seq:=by
     have h0:0<x.row.length:=by rw[hi.len];exact hpos
     unfold og ik
     simp only
     rw[show x.row.length=(x.row.length-1)+1 by omega]
     rfl
    rw[e,e2]at he
    omega
  ·obtain⟨c,hu⟩:=pF hf hk2 hin
   by_cases hz:dM (rt.map aB)[k] (keyOf x)<0
   ·rw[jF omA hz];exact htab
   ·obtain⟨j,hj,he⟩:=jV (Int.not_lt.1 hz)
    rw[mO hk2 he]
    exact htab.upd j hu.col hu.pos hu.lt hu.val hu.typ hin.seq fun r hr s hs=>Int.le_of_lt (hsq r hr s hs)
  ·by_cases hz:dM (rt.map aB)[k] (keyOf x)<0
   ·rw[jF omA hz];exact htab
   ·obtain⟨j,hj,he⟩:=jV (Int.not_lt.1 hz)
    rw[pX omA omA he]
    exact htab.cut j
 have hpe:aP (rt.map aB) x=(rt.map aB).set k (cK (rt.map aB)[k] x):=by
  unfold aP
  rw[hin.tab,Int.toNat_natCast,fC hkp]
 rw[hpe]
 refine⟨by simpa using hp.len,fun i hi hi' =>?_⟩
 rw[List.getElem_set]
 split
 ·rename_i e
  subst e
  exact key
 ·exact hp.tab i dr hi'
structure bO (l:List bu):Prop where
 row:∀r∈l,0<r.1.length
 val:∀r∈l,bK (aT r)=true
 asc:l.Pairwise (fun a b=>aW (aT a) (aT b)<0)
theorem Fb{r:bu}(h:0<r.1.length):aT r=r.1[0]:=by
 obtain⟨a,b⟩:=r
 cases a with
 | nil=>simp at h
 | cons u us=>rfl
theorem iI.keys{af:List Col}{l:List bu}(h:iI af l)(h0:0<af.length):bO l:=
 ⟨fun r hr=>by rw[(h.rcd r hr).len];exact h0,fun r hr=>by
  have hl:0<r.1.length:=by rw[(h.rcd r hr).len];exact h0
  rw[Fb hl]
  exact((h.rcd r hr).cell 0 h0).val hl,h.asc⟩
def eY(l:List bu)(key:Val):Nat:=(l.takeWhile fun y=>decide (aW (aT y) key<0)).length
def bU(l:List bu)(key:Val):Bool:=match l[eY l key]? with
 | some r=>decide (aT r=key)
 | none=>false
theorem xu(l:List bu)(r:bu):iq l r=eY l (aT r):=rfl
theorem BU{α:Type}{p:α→Bool}:∀ {l:List α}{i:Nat}(hi:i≤l.length),(∀j (h:j<l.length),j<i→p l[j]=true)→(∀h:i<l.length,p l[i]=false)→(l.takeWhile p).length=i
 | [],i,hi,_,_=>by simp at hi;simp[hi]
 | a::l,0,_,_,h2=>by
   have h:=h2 spA
   rw[List.takeWhile_cons,if_neg (by simpa using h)]
   rfl
 | a::l,i + 1,hi,h1,h2=>by
   have h:=h1 0 spA omA
   rw[List.takeWhile_cons,if_pos (by simpa using h),List.length_cons,BU (l:=l) (i:=i) dr (fun j hj hji=>by have:=h1 (j+1) (by simpa using hj) omA;simpa using this) (fun h=>by have:=h2 (by simpa using h);simpa using this)]
theorem uz{l:List bu}{key:Val}{i:Nat}(hi:i≤l.length)(hlo:∀j (h:j<l.length),j<i→0<aW key (aT l[j]))(hhi:∀h:i<l.length,aW key (aT l[i])≤0):eY l key=i:=by
 unfold eY
 refine BU hi (fun j h hji =>?_) (fun h =>?_)
 ·have h1:=hlo j h hji
  have h2:=dB.qy key (aT l[j])
  exact decide_eq_true omA
 ·have h1:=hhi h
  have h2:=dB.qy key (aT l[i])
  exact decide_eq_false omA
theorem bO.mono{l:List bu}(h:bO l){key:Val}{i j:Nat}(hij:i<j)(hj:j<l.length)(hc:aW key (aT (l[i]' omA))≤0):aW key (aT l[j])<0:=by
 have h1:=List.pairwise_iff_getElem.1 h.asc i j omA hj hij
 have h2:=dB.qy key (aT (l[i]' omA))
 have h3:=dB.trans (aT l[j]) (aT (l[i]' omA)) key
 have h4:=dB.qy (aT (l[i]' omA)) (aT l[j])
 have h5:=dB.qy key (aT l[j])
 rcases Int.lt_or_le (aW key (aT l[j])) 0 with h6|h6
 ·exact h6
 ·have h7:=dB.Cw h1 (z:=key) omA
  omega
theorem kP{l:List bu}(h:bO l){key:Val}(hv:bK key=true){i:Nat}(hp:eY l key=i):bU l key=true ↔ ∃hi:i<l.length,aW key (aT l[i])=0:=by
 unfold bU
 rw[hp]
 constructor
 ·intro hf
  rcases Nat.lt_or_ge i l.length with hi|hi
  ·rw[List.getElem?_eq_getElem hi]at hf
   have e:aT l[i]=key:=by simpa using hf
   exact⟨hi,by rw[e];exact dB.refl key⟩
  ·rw[List.getElem?_eq_none hi]at hf
   cases hf
 ·rintro⟨hi,hc⟩
  rw[List.getElem?_eq_getElem hi]
  exact decide_eq_true (kR hv (h.val _ (lgm hi)) hc).symm
theorem qf{r:bu}{key:Val}(h:0<r.1.length):r.1.head?=some key↔aT r=key:=by
 obtain⟨a,b⟩:=r
 cases a with
 | nil=>simp at h
 | cons u us=>simp[aT]
theorem jU{l:List bu}(h:bO l){key:Val}(hv:bK key=true)(hk:key.kind≠0)(hf:bU l key=true):dM l key=(eY l key:Int):=by
 obtain⟨hi,hc⟩:=(kP h hv rfl).1 hf
 unfold dM
 rw[if_pos (by rw[hv];simpa using hk)]
 refine yj hi ?_ fun j hj hji =>?_
 ·have e:=kR hv (h.val _ (lgm hi)) hc
  exact decide_eq_true ((qf (h.row _ (lgm hi))).2 e.symm)
 ·rw[decide_eq_false_iff_not,qf (h.row _ (lgm hj))]
  intro e
  have h1:=List.pairwise_iff_getElem.1 h.asc j (eY l key) hj hi hji
  rw[e]at h1
  omega
theorem jL{l:List bu}(h:bO l){key:Val}(hv:bK key=true)(hf:bU l key=false):dM l key<0:=by
 rcases Int.lt_or_le (dM l key) 0 with h1|h1
 ·exact h1
 exfalso
 unfold dM at h1
 split at h1
 ·rename_i hc
  obtain⟨m,hm,he,hp⟩:=vR h1
  have e:aT l[m]=key:=(qf (h.row _ (lgm hm))).1 (by simpa using hp)
  have hpl:eY l key=m:=uz omA (fun j hj hji=>by
   have h2:=List.pairwise_iff_getElem.1 h.asc j m hj hm hji
   rw[e]at h2
   have h3:=dB.qy key (aT l[j])
   omega) (fun _=>by rw[e,dB.refl];exact Int.le_refl _)
  have h4:=(kP h hv hpl).2 ⟨hm,by rw[e];exact dB.refl key⟩
  rw[h4]at hf
  cases hf
 ·omega
theorem yl{l:List bu}(h:bO l){key:Val}(hv:bK key=true)(hk:key.kind≠0):decide (0≤dM l key)=bU l key:=by
 cases hf:bU l key
 ·exact decide_eq_false (by have:=jL h hv hf;omega)
 ·exact decide_eq_true (by rw[jU h hv hk hf];omega)
theorem zg{l:List bu}(h:bO l){x:Chg}(hk1:x.kind=1)(hv:bK (keyOf x)=true)(hf:bU l (keyOf x)=false)(hl:l.length<64):cK l x=l.take (eY l (keyOf x))++ik x::l.drop (eY l (keyOf x)):=by
 rw[mP hk1 (jL h hv hf) omA]
 unfold mo
 rw[xu,←lV hk1,List.append_assoc]
 rfl
theorem kZ{l:List bu}(h:bO l){x:Chg}(hk1:x.kind=1)(hv:bK (keyOf x)=true)(hf:bU l (keyOf x)=false)(hl:64≤l.length):cK l x=l:=xx hk1 (jL h hv hf) hl
theorem En{α:Type}{l:List α}{i:Nat}(hi:i<l.length)(y:α):l.set i y=l.take i++y::l.drop (i+1):=by
 rw[List.set_eq_take_append_cons_drop,if_pos hi]
theorem ze{l:List bu}(h:bO l){x:Chg}(hk1:x.kind=1)(hv:bK (keyOf x)=true)(hkk:(keyOf x).kind≠0)(hf:bU l (keyOf x)=true):cK l x=l.set (eY l (keyOf x)) (ik x):=by
 rw[uC hk1 (jU h hv hkk hf)]
 obtain⟨i,hie⟩:∃i,eY l (keyOf x)=i:=⟨_,rfl⟩
 obtain⟨hi,hc⟩:=(kP h hv hie).1 hf
 rw[hie]
 have hlen:(l.take i).length=i:=by rw[List.length_take];omega
 have hp:iq (jv l i) (ik x)=i:=by
  rw[xu,←lV hk1]
  refine uz (by unfold jv;simp;omega) (fun j hj hji =>?_) (fun hj =>?_)
  ·have hjl:j<l.length:=by omega
   have e0:(jv l i)[j]?=l[j]?:= by
    unfold jv
    rw[List.getElem?_append_left (by rw[hlen];exact hji),List.getElem?_take_of_lt hji]
   rw[List.getElem?_eq_getElem hj,List.getElem?_eq_getElem hjl]at e0
   have e1:=Option.some.inj e0
   rw[e1]
   have h2:=List.pairwise_iff_getElem.1 h.asc j i hjl hi hji
   have h3:=dB.qy (aT l[j]) (aT l[i])
   have h4:keyOf x=aT l[i]:=by
    have:=kR hv (h.val _ (lgm hi)) hc
    exact this
   rw[h4]
   omega
  ·have hjl:i+1<l.length:=by unfold jv at hj;simp at hj;omega
   have e0:(jv l i)[i]?=l[i+1]?:= by
    unfold jv
    rw[List.getElem?_append_right (by rw[hlen];exact Nat.le_refl _),hlen,List.getElem?_drop]
    congr 1
    omega
   rw[List.getElem?_eq_getElem hj,List.getElem?_eq_getElem hjl]at e0
   have e1:=Option.some.inj e0
   rw[e1]
   exact Int.le_of_lt (h.mono (Nat.lt_succ_self i) hjl omA)
 unfold mo
 rw[hp,En hi]
 have t1:(jv l i).take i=l.take i:=by unfold jv;exact List.take_left' hlen
 have t2:(jv l i).drop i=l.drop (i+1):=by unfold jv;exact List.drop_left' hlen
 rw[t1,t2,List.append_assoc]
 rfl
theorem AO{l:List bu}(h:bO l){x:Chg}(hk3:x.kind=3)(hv:bK (keyOf x)=true)(hkk:(keyOf x).kind≠0)(hf:bU l (keyOf x)=true):cK l x=jv l (eY l (keyOf x)):=pX omA omA (jU h hv hkk hf)
theorem AL{l:List bu}(h:bO l){x:Chg}(hk2:x.kind=2)(hv:bK (keyOf x)=true)(hkk:(keyOf x).kind≠0)(hf:bU l (keyOf x)=true):cK l x=uh l (eY l (keyOf x)) x:=mO hk2 (jU h hv hkk hf)
theorem qH{l:List bu}(h:bO l){x:Chg}(hk1:x.kind≠1)(hv:bK (keyOf x)=true)(hf:bU l (keyOf x)=false):cK l x=l:=jF hk1 (jL h hv hf)
theorem ji{ts:List Tab}{x:Chg}(h:bq ts x=0)(hok:aV ts):bK (keyOf x)=true∧(keyOf x).kind≠0:=by
 obtain⟨h1,h2,_,_,_⟩:=lW h
 refine⟨?_,h2⟩
 obtain⟨k,hin⟩:=gD h
 rcases hin.kind with hk1|hk2|hk3
 ·have hi:=tJ h hk1 hin
  rw[lV hk1,jK (by rw[hi.len];exact(hok.af hin.lt).1)]
  exact hi.vals _ (lgm _)
 ·unfold bC at h1
  rw[Bool.or_eq_false_iff]at h1
  have hb:=h1.2
  have e1:(x.kind == 1)=false:=by rw[hk2];rfl
  have e2:(x.kind == 2)=true:=by rw[hk2];rfl
  rw[e1,if_neg (by decide),e2,if_pos rfl]at hb
  unfold dG at hb
  simp only[Bool.or_eq_false_iff,Bool.not_eq_false']at hb
  unfold keyOf
  rw[if_neg (by rw[e1];decide)]
  exact hb.1.1.2
 ·unfold bC at h1
  rw[Bool.or_eq_false_iff]at h1
  have hb:=h1.2
  have e1:(x.kind == 1)=false:=by rw[hk3];rfl
  have e2:(x.kind == 2)=false:=by rw[hk3];rfl
  rw[e1,if_neg (by decide),e2,if_neg (by decide)]at hb
  unfold fG at hb
  simp only[Bool.or_eq_false_iff,Bool.not_eq_false']at hb
  unfold keyOf
  rw[if_neg (by rw[e1];decide)]
  exact hb.2
theorem bO.sub{l l':List bu}(h:bO l)(hs:l'.Sublist l):bO l':=⟨fun r hr=>h.row r (hs.subset hr),fun r hr=>h.val r (hs.subset hr),h.asc.sublist hs⟩
theorem Dm(l:List bu)(j:Nat):(jv l j).Sublist l:=by
 have h1:(l.drop (j+1)).Sublist (l.drop j):=by rw[←List.drop_drop];exact List.drop_sublist _ _
 have h2:=(List.Sublist.refl (l.take j)).append h1
 rwa [List.take_append_drop]at h2
theorem Jw{x:Chg}{c:Nat}(hx:x.column=(c:Int))(hc:0<c)(a:bu):aT (a.1.set x.column.toNat x.val,a.2.1.set x.column.toNat x.seq,a.2.2)=aT a:=by
 obtain⟨a,b,d⟩:=a
 rw[hx,Int.toNat_natCast]
 unfold aT
 cases a with
 | nil=>rfl
 | cons u us=>rw[show c=(c-1)+1 by omega];rfl
theorem bO.upd{l:List bu}(h:bO l)(j:Nat){x:Chg}{c:Nat}(hx:x.column=(c:Int))(hc:0<c):bO (uh l j x):=by
 unfold uh
 split
 ·rename_i r hr
  obtain⟨hj,rfl⟩:=List.getElem?_eq_some_iff.1 hr
  have hK:=Jw hx hc
  refine⟨fun y hy =>?_,fun y hy =>?_,?_⟩
  ·rcases List.mem_or_eq_of_mem_set hy with h1|rfl
   ·exact h.row y h1
   ·simpa using h.row _ (lgm hj)
  ·rcases List.mem_or_eq_of_mem_set hy with h1|rfl
   ·exact h.val y h1
   ·rw[hK];exact h.val _ (lgm hj)
  ·rw[List.pairwise_iff_getElem]
   intro a b ha hb hab
   have h1:=List.pairwise_iff_getElem.1 h.asc a b (by simpa using ha) (by simpa using hb) hab
   rw[List.getElem_set,List.getElem_set]
   split
   ·rename_i e;subst e;rw[hK,if_neg omA];exact h1
   ·split
    ·rename_i e;subst e;rw[hK];exact h1
    ·exact h1
 ·exact h
theorem bO.ins{l:List bu}(h:bO l){r:bu}(h0:0<r.1.length)(hv:bK (aT r)=true)(hne:∀y∈l,aW (aT y) (aT r)≠0):bO (mo l r):=by
 have hp:=zV l r
 refine⟨fun y hy =>?_,fun y hy =>?_,Gy h.asc hne⟩
 ·rcases List.mem_cons.1 (hp.mem_iff.1 hy) with rfl|h1
  ·exact h0
  ·exact h.row y h1
 ·rcases List.mem_cons.1 (hp.mem_iff.1 hy) with rfl|h1
  ·exact hv
  ·exact h.val y h1
theorem bO.oq{l:List bu}(h:bO l){ts:List Tab}{x:Chg}(hf:bq ts x=0)(hok:aV ts):bO (cK l x):=by
 obtain⟨k,hin⟩:=gD hf
 obtain⟨hv,hk⟩:=ji hf hok
 have hpos:=(hok.af hin.lt).1
 rcases hin.kind with hk1|hk2|hk3
 ·have hi:=tJ hf hk1 hin
  have hr0:0<(ik x).1.length:=by show 0<x.row.length;rw[hi.len];exact hpos
  have hke:=lV hk1
  have hne:∀l',bO l'→(∀y∈l',aT y≠keyOf x)→∀y∈l',aW (aT y) (aT (ik x))≠0:=fun l' h' hn y hy e=>hn y hy (kR (h'.val y hy) hv (by rw[hke];exact e))
  cases hfd:bU l (keyOf x)
  ·rcases Nat.lt_or_ge l.length 64 with hl|hl
   ·rw[mP hk1 (jL h hv hfd) omA]
    refine h.ins hr0 (by rw[←hke];exact hv) (hne l h fun y hy e =>?_)
    have h1:=jL h hv hfd
    unfold dM at h1
    rw[if_pos (by rw[hv];simpa using hk)]at h1
    have h2:=vQ h1 y hy
    rw[decide_eq_false_iff_not]at h2
    exact h2 ((qf (h.row y hy)).2 e)
   ·rw[kZ h hk1 hv hfd hl];exact h
  ·rw[uC hk1 (jU h hv hk hfd)]
   have hs:=h.sub (Dm l (eY l (keyOf x)))
   refine hs.ins hr0 (by rw[←hke];exact hv) (hne _ hs fun y hy e =>?_)
   obtain⟨hi,hc⟩:=(kP h hv rfl).1 hfd
   have e2:=kR hv (h.val _ (lgm hi)) hc
   unfold jv at hy
   rcases List.mem_append.1 hy with h1|h1
   ·obtain⟨j,hj,rfl⟩:=List.getElem_of_mem h1
    rw[List.length_take]at hj
    rw[List.getElem_take]at e
    have h3:=List.pairwise_iff_getElem.1 h.asc j (eY l (keyOf x)) omA hi omA
    rw[e,←e2,dB.refl]at h3
    omega
   ·obtain⟨j,hj,rfl⟩:=List.getElem_of_mem h1
    rw[List.length_drop]at hj
    rw[List.getElem_drop]at e
    have h3:=List.pairwise_iff_getElem.1 h.asc (eY l (keyOf x)) (eY l (keyOf x)+1+j) hi omA omA
    rw[e,←e2,dB.refl]at h3
    omega
 ·obtain⟨c,hu⟩:=pF hf hk2 hin
  by_cases hz:dM l (keyOf x)<0
  ·rw[jF omA hz];exact h
  ·obtain⟨j,hj,he⟩:=jV (Int.not_lt.1 hz)
   rw[mO hk2 he]
   exact h.upd j hu.col hu.pos
 ·by_cases hz:dM l (keyOf x)<0
  ·rw[jF omA hz];exact h
  ·obtain⟨j,hj,he⟩:=jV (Int.not_lt.1 hz)
   rw[pX omA omA he]
   exact h.sub (Dm l j)
def lZ(pl:List (List bu)):Prop:= ∀l∈pl,bO l
theorem bO.nil:bO []:=⟨fun r hr=>(by cases hr),fun r hr=>(by cases hr),List.Pairwise.nil⟩
theorem lZ.zero(n:Nat):lZ (List.replicate n []):=fun l hl=>by rw[(List.mem_replicate.1 hl).2];exact bO.nil
theorem lZ.tab{pl:List (List bu)}(h:lZ pl)(k:Int):bO (iL pl k):=by
 unfold iL
 split
 ·rename_i l hl
  exact h l (List.mem_of_getElem? hl)
 ·exact bO.nil
theorem lZ.oq{pl:List (List bu)}(h:lZ pl){ts:List Tab}{x:Chg}(hf:bq ts x=0)(hok:aV ts):lZ (aP pl x):=fun l hl=>by
 unfold aP at hl
 rcases List.mem_or_eq_of_mem_set hl with h1|rfl
 ·exact h l h1
 ·exact(h.tab _).oq hf hok
def kH(m:Nat)(x:Chg):Bool:=decide (x.seq<1)||(decide (1073741824<x.seq)||(decide (x.day<0)||(decide (1048576<x.day)||(decide (x.table<0)||decide ((m:Int)≤x.table)))))
noncomputable def jI(af:List Col)(x:Chg):Int:=if dP af.length x=true then 1 else if ((keyOf x).kind == 0)=true then 6 else if pb (fZ af x.row)=false then 5 else 0
noncomputable def l7(af:List Col)(x:Chg):Int:=if dG af.length x=true then 1 else if (x.key.kind == 0)=true then 6 else if (!di x.val (l8 af x.column)||x.key.kind != l8 af 0)=true then 5 else if pb (dz af x.column)=true then 11 else 0
def mr(af:List Col)(x:Chg):Int:=if fG x=true then 1 else if (x.key.kind == 0)=true then 6 else if (x.key.kind != l8 af 0)=true then 5 else 0
theorem nR{m:Nat}{x:Chg}:eO m x=(!aD x.kind 1 3||kH m x):=by
 unfold eO kH aD
 by_cases h1:1≤x.kind<;>by_cases h2:x.kind≤3<;>by_cases h3:1≤x.seq<;>by_cases h4:x.seq≤1073741824<;>by_cases h5:0≤x.day<;>by_cases h6:x.day≤1048576<;>by_cases h7:0≤x.table<;>by_cases h8:x.table≤(m:Int)-1<;>simp[h1,h2,h3,h4,h5,h6,h7,h8]<;>omega
theorem Iu{ts:List Tab}{x:Chg}(h:kH ts.length x=true):bq ts x=1:=by
 unfold bq
 rw[if_pos]
 unfold bC
 rw[nR,h]
 simp
theorem Iw{ts:List Tab}{x:Chg}(h1:x.kind≠1)(h2:x.kind≠2)(h3:x.kind≠3):bq ts x=1:=by
 unfold bq
 rw[if_pos]
 unfold bC
 rw[nR]
 have:aD x.kind 1 3=false:=by
  unfold aD
  by_cases h4:1≤x.kind<;>by_cases h5:x.kind≤3<;>simp[h4,h5]
  omega
 rw[this]
 simp
section
variable {ts:List Tab}{x:Chg}{k:Nat}
theorem Bp(h:kH ts.length x=false)(hk:x.kind=1∨x.kind=2∨x.kind=3):eO ts.length x=false:=by
 rw[nR,h]
 have:aD x.kind 1 3=true:=by rcases hk with h|h|h<;>rw[h]<;>decide
 rw[this]
 rfl
theorem De(h:kH ts.length x=false)(hk:x.kind=1)(ht:x.table=(k:Int))(hkt:k<ts.length)(h0:0<ts[k].af.length):bq ts x=jI ts[k].af x:=by
 have hh:=Bp h (.inl hk)
 have e1:(x.kind == 1)=true:=by rw[hk];rfl
 have e2:(x.kind == 2)=false:=by rw[hk];rfl
 have hinv:bC ts x=dP ts[k].af.length x:=by
  unfold bC
  rw[hh,e1,ht,cu hkt]
  rfl
 unfold bq jI iT
 rw[hinv,e2,ht,cu hkt]
 simp only[Bool.false_and,Bool.or_false,Bool.false_eq_true,if_false]
 split
 ·rfl
 rename_i hb
 split
 ·rfl
 split
 ·rfl
 rename_i hr
 have hr:fZ ts[k].af x.row:=iH.1 (by simpa using hr)
 have hlen:x.row.length=ts[k].af.length:=by
  unfold dP at hb
  simp only[Bool.not_eq_true,Bool.or_eq_false_iff]at hb
  have:=hb.1.2
  have:((x.row.length:Int)=(ts[k].af.length:Int)):=by simpa using this
  omega
 have hl0:0<x.row.length:=by omega
 have hkey:keyOf x=x.row[0]:=by rw[lV hk,jK hl0]
 have hty:=hr 0 hl0 h0
 rw[if_neg]
 rw[hkey,show (0:Int)=((0:Nat):Int) from rfl,kV h0,hty]
 decide
theorem zG{v:Val}{t:Int}(h:(v.kind == 0)=false):(!di v t)=(v.kind != t):=by
 unfold di
 rw[h]
 simp[bne]
theorem Dc(h:kH ts.length x=false)(hk:x.kind=2)(ht:x.table=(k:Int))(hkt:k<ts.length):bq ts x=l7 ts[k].af x:=by
 have hh:=Bp h (.inr (.inl hk))
 have e1:(x.kind == 1)=false:=by rw[hk];rfl
 have e2:(x.kind == 2)=true:=by rw[hk];rfl
 have ek:keyOf x=x.key:=by unfold keyOf;rw[e1,if_neg (by decide)]
 have hinv:bC ts x=dG ts[k].af.length x:=by
  unfold bC
  rw[hh,e1,e2,ht,cu hkt]
  rfl
 unfold bq l7 iT
 rw[hinv,e2,ht,cu hkt,ek]
 simp only[Bool.true_and]
 split
 ·rfl
 rename_i hb
 split
 ·rfl
 rename_i hz
 have hz:(x.key.kind == 0)=false:=by simpa using hz
 have hrow:x.row=[]:=by
  unfold dG at hb
  simp only[Bool.not_eq_true,Bool.or_eq_false_iff]at hb
  have:=hb.1.1.1
  have:¬ 0<x.row.length:=by simpa using this
  exact List.eq_nil_of_length_eq_zero omA
 have hr:pb (fZ ts[k].af x.row)=true:=aU fun i h _=>by rw[hrow]at h;simp at h
 rw[hr,zG hz,Bool.or_comm]
 simp
theorem Df(h:kH ts.length x=false)(hk:x.kind=3)(ht:x.table=(k:Int))(hkt:k<ts.length):bq ts x=mr ts[k].af x:=by
 have hh:=Bp h (.inr (.inr hk))
 have e1:(x.kind == 1)=false:=by rw[hk];rfl
 have e2:(x.kind == 2)=false:=by rw[hk];rfl
 have ek:keyOf x=x.key:=by unfold keyOf;rw[e1,if_neg (by decide)]
 have hinv:bC ts x=fG x:=by
  unfold bC
  rw[hh,e1,e2,ht]
  rfl
 unfold bq mr iT
 rw[hinv,e2,ht,cu hkt,ek]
 simp only[Bool.false_and,Bool.or_false]
 split
 ·rfl
 rename_i hb
 split
 ·rfl
 rename_i hz
 have hz:(x.key.kind == 0)=false:=by simpa using hz
 have hrow:x.row=[]:=by
  unfold fG at hb
  simp only[Bool.not_eq_true,Bool.or_eq_false_iff]at hb
  have:=hb.1.1.1
  have:¬ 0<x.row.length:=by simpa using this
  exact List.eq_nil_of_length_eq_zero omA
 have hr:pb (fZ ts[k].af x.row)=true:=aU fun i h _=>by rw[hrow]at h;simp at h
 rw[hr,zG hz]
 simp
end
end Go.Proofs.YtebippoohpnjkaaGreat
