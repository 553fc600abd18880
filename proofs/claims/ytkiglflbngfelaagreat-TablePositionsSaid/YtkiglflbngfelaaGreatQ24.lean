/-
  Contracts and plain laws of this seat, part 24: StepE, FindE, FormE.
-/
import Derived.Test.YtkiglflbngfelaaGreatQ11
set_option linter.unusedVariables false
set_option linter.unusedSimpArgs false
set_option maxRecDepth 100000
set_option maxHeartbeats 16000000
namespace Go.Proofs.YtkiglflbngfelaaGreat
open Go.RowKit
theorem qN {x y:Val} (hx:bM x=true) (hy:bM y=true) (h:aY x y = 0):x=y:=by
 rw [rY,nU hx,nU hy] at h
 exact Cy h
def eX (r:bB):Int:=r.2.1.headD 0
structure fH (ae:List Col) (l:List bB):Prop where
 len:l.length ≤ 64
 rcd : ∀ r∈l,gB ae r.1 r.2.1 r.2.2
 asc:l.Pairwise (fun a b=>aY (aJ a) (aJ b) < 0)
 own:l.Pairwise (fun a b=>eX a≠eX b)
structure POk (ts:List Tab) (pl:List (List bB)):Prop where
 len:pl.length=ts.length
 tab : ∀ i (h:i<pl.length) (h':i<ts.length),fH ts[i].ae pl[i]
theorem Gz {l:List bB} (h : ∀ k (hk:k<l.length) (h0 : 0<k),aY (aJ (l[k - 1]' omA)) (aJ l[k]) < 0):l.Pairwise (fun a b=>aY (aJ a) (aJ b) < 0):=by
 rw [List.pairwise_iff_getElem]
 intro i j hi hj hij
 obtain ⟨d,rfl⟩ : ∃ d,j=i + 1+d:=⟨j - (i + 1),by omega⟩
 clear hij
 induction d with
 | zero=>exact h (i + 1) hj omA
 | succ d ih =>
   have h1:=ih omA
   have h2:=h (i + 1+(d + 1)) hj omA
   have e:l[i + 1+(d + 1) - 1]' omA=l[i + 1+d]' omA:=by congr 1
   rw [e] at h2
   exact bN.DZ h1 omA
theorem Az {α : Type} {p : α → Bool} : ∀ {l:List α} {y : α},y∈l.takeWhile p→p y=true
 | [],_,h=>by cases h
 | a::l,y,h=>by
   rw [List.takeWhile_cons] at h
   split at h
   ·rename_i ha
    rcases List.mem_cons.1 h with rfl|h1
    ·exact ha
    ·exact Az h1
   ·cases h
theorem RTabOk.pure {ae:List Col} {recs:List Rcd} (h:RTabOk ae recs):fH ae (recs.map aG):=by
 refine ⟨by simpa using h.len,fun r hr => ?_,Gz fun k hk h0 => ?_,?_⟩
 ·obtain ⟨x,hx,rfl⟩:=List.mem_map.1 hr
  obtain ⟨j,hj,rfl⟩:=List.getElem_of_mem hx
  exact (h.at_ j hj).ok
 ·have hk':k<recs.length:=by simpa using hk
  rw [List.getElem_map,List.getElem_map]
  exact (h.at_ k hk').asc h0
 ·rw [List.pairwise_iff_getElem]
  intro i j hi hj hij
  rw [List.getElem_map,List.getElem_map]
  have hj':j<recs.length:=by simpa using hj
  exact (h.at_ j hj').own i hij
theorem fH.back {ae:List Col} {recs:List Rcd} (h:fH ae (recs.map aG)):RTabOk ae recs:=by
 refine ⟨by simpa using h.len,fun k hk=>⟨h.rcd (aG recs[k]) (List.mem_map_of_mem (lgm hk)),fun h0 => ?_,fun j hj => ?_⟩⟩
 ·have h1:=List.pairwise_iff_getElem.1 h.asc (k - 1) k smA (by simpa using hk) omA
  rw [List.getElem_map,List.getElem_map] at h1
  exact h1
 ·have h1:=List.pairwise_iff_getElem.1 h.own j k smA (by simpa using hk) hj
  rw [List.getElem_map,List.getElem_map] at h1
  exact h1
theorem aO.pure {ts:List Tab} {rt:List RTab} (h:aO ts rt):POk ts (rt.map ax) :=
 ⟨by simpa using h.len,fun i hi hi'=>by rw [List.getElem_map];exact (h.tab i (by simpa using hi) hi').pure⟩
theorem POk.back {ts:List Tab} {rt:List RTab} (hok:aV ts) (h:POk ts (rt.map ax)):aO ts rt :=
 ⟨hok,by simpa using h.len,fun i hi hi'=>by have h1:=h.tab i (by simpa using hi) hi';rw [List.getElem_map] at h1;exact h1.back⟩
theorem POk.zero (ts:List Tab):POk ts (List.replicate ts.length []) :=
 ⟨by simp,fun i hi hi'=>by rw [List.getElem_replicate];exact ⟨by simp,fun r hr=>(by cases hr),List.Pairwise.nil,List.Pairwise.nil⟩⟩
theorem fH.cut {ae:List Col} {l:List bB} (h:fH ae l) (j:Nat):fH ae (iW l j):=by
 have hs:(iW l j).Sublist l:=by
  have h1:(l.drop (j + 1)).Sublist (l.drop j):=by rw [← List.drop_drop];exact List.drop_sublist _ _
  have h2:=(List.Sublist.refl (l.take j)).append h1
  rwa [List.take_append_drop] at h2
 exact ⟨Nat.le_trans hs.length_le h.len,fun r hr=>h.rcd r (hs.subset hr),h.asc.sublist hs,h.own.sublist hs⟩
theorem Ji (l:List bB) (r:bB):(nS l r).Perm (r::l):=by
 unfold nS
 have h1 := @List.perm_middle _ r (l.take (gG l r)) (l.drop (gG l r))
 rw [List.take_append_drop] at h1
 simpa using h1
theorem OY {l:List bB} (h:l.Pairwise (fun a b=>aY (aJ a) (aJ b) < 0)) {r:bB} (hne : ∀ y∈l,aY (aJ y) (aJ r) ≠ 0):(nS l r).Pairwise (fun a b=>aY (aJ a) (aJ b) < 0):=by
 have hlt : ∀ y∈l.take (gG l r),aY (aJ y) (aJ r) < 0:=by
  intro y hy
  have e:l.take (gG l r)=l.takeWhile fun y=>decide (aY (aJ y) (aJ r) < 0):=by
   conv=>lhs;arg 2;rw [← List.takeWhile_append_dropWhile (p:=fun y=>decide (aY (aJ y) (aJ r) < 0)) (l:=l)]
   exact List.take_left' rfl
  rw [e] at hy
  have h1:=Az hy
  simpa using h1
 have hge : ∀ y∈l.drop (gG l r),aY (aJ r) (aJ y) < 0:=by
  have e:l.drop (gG l r)=l.dropWhile fun y=>decide (aY (aJ y) (aJ r) < 0):=by
   conv=>lhs;arg 2;rw [← List.takeWhile_append_dropWhile (p:=fun y=>decide (aY (aJ y) (aJ r) < 0)) (l:=l)]
   exact List.drop_left' rfl
  have hd:(l.drop (gG l r)).Pairwise (fun a b=>aY (aJ a) (aJ b) < 0):=h.sublist (List.drop_sublist _ _)
  have hm : ∀ y∈l.drop (gG l r),y∈l:=fun y hy=>List.mem_of_mem_drop hy
  cases hc:l.drop (gG l r) with
  | nil=>intro y hy;cases hy
  | cons z zs =>
    have hz : ¬ aY (aJ z) (aJ r) < 0:=by
     have h1:(l.dropWhile fun y=>decide (aY (aJ y) (aJ r) < 0)).head? = some z:=by rw [← e,hc];rfl
     have h2:=List.head?_dropWhile_not (fun y=>decide (aY (aJ y) (aJ r) < 0)) l
     rw [h1] at h2
     simpa using h2
    rw [hc] at hd hm
    have hz0:=hne z (hm z spA)
    have ha:=bN.pQ (aJ z) (aJ r)
    intro y hy
    rcases List.mem_cons.1 hy with rfl|hy
    ·omega
    ·have h3:=(List.pairwise_cons.1 hd).1 y hy
     have h4:aY (aJ r) (aJ z) < 0:=by omega
     exact bN.DZ h4 omA
 unfold nS
 rw [List.append_assoc]
 refine List.pairwise_append.2 ⟨h.sublist (List.take_sublist _ _),List.pairwise_append.2 ⟨List.pairwise_singleton _ _,h.sublist (List.drop_sublist _ _),fun a ha b hb => ?_⟩,fun a ha b hb => ?_⟩
 ·rw [List.mem_singleton.1 ha];exact hge b hb
 ·rcases List.mem_append.1 hb with h1|h1
  ·rw [List.mem_singleton.1 h1];exact hlt a ha
  ·exact bN.DZ (hlt a ha) (by have:=hge b h1;omega)
theorem fH.ins {ae:List Col} {l:List bB} (h:fH ae l) (hl:l.length < 64) {r:bB} (hr:gB ae r.1 r.2.1 r.2.2) (hne : ∀ y∈l,aY (aJ y) (aJ r) ≠ 0) (hown : ∀ y∈l,eX y≠eX r):fH ae (nS l r):=by
 have hp:=Ji l r
 refine ⟨by rw [hp.length_eq,List.length_cons];omega,fun y hy => ?_,OY h.asc hne,?_⟩
 ·rcases List.mem_cons.1 (hp.mem_iff.1 hy) with rfl|h1
  ·exact hr
  ·exact h.rcd y h1
 ·refine (List.Perm.pairwise_iff (fun {a b} (h:eX a≠eX b)=>Ne.symm h) hp).2 (List.pairwise_cons.2 ⟨fun y hy=>(hown y hy).symm,h.own⟩)
theorem fH.upd {ae:List Col} {l:List bB} (h:fH ae l) (j:Nat) {x:Chg} {c:Nat} (hx:x.column=(c:Int)) (hc0 : 0<c) (hc:c<ae.length) (hv:bM x.val=true) (ht:bT x.val ae[c].ty=true) (hs:aB x.seq 1 1073741824=true) (hlast : ∀ r∈l,∀ s∈r.2.1,s≤x.seq):fH ae (updP l j x):=by
 unfold updP
 split
 ·rename_i r hr
  have hm:=List.mem_of_getElem? hr
  obtain ⟨hj,rfl⟩:=List.getElem?_eq_some_iff.1 hr
  have h0:=h.rcd _ hm
  rw [hx,Int.toNat_natCast]
  have hP : ∀ (a:bB),aJ (a.1.set c x.val,a.2.1.set c x.seq,a.2.2)=aJ a:=by
   rintro ⟨a,b,d⟩
   unfold aJ
   cases a with
   | nil=>rfl
   | cons u us=>rw [show c=(c - 1) + 1 by omega];rfl
  have hQ : ∀ (a:bB),eX (a.1.set c x.val,a.2.1.set c x.seq,a.2.2)=eX a:=by
   rintro ⟨a,b,d⟩
   unfold eX
   cases b with
   | nil=>rfl
   | cons u us=>rw [show c=(c - 1) + 1 by omega];rfl
  refine ⟨by simpa using h.len,fun y hy => ?_,?_,?_⟩
  ·rcases List.mem_or_eq_of_mem_set hy with h1|rfl
   ·exact h.rcd y h1
   ·refine ⟨by simpa using h0.len,by simpa using h0.qW,h0.day,fun i hi => ?_,fun hk => ?_⟩
    ·have hci:=h0.cell i hi
     refine ⟨fun hl => ?_,fun hl hk => ?_,fun hl => ?_,fun hl hl0 => ?_⟩
     ·rw [List.getElem_set]
      split
      ·exact hv
      ·exact hci.val (by simpa using hl)
     ·rw [List.getElem_set]
      split
      ·rename_i he
       subst he
       exact ht
      ·exact hci.typ (by simpa using hl) hk
     ·rw [List.getElem_set]
      split
      ·exact hs
      ·exact hci.pos (by simpa using hl)
     ·rw [List.getElem_set,List.getElem_set,if_neg omA]
      have hl':i<l[j].2.1.length:=by simpa using hl
      have hl0' : 0<l[j].2.1.length:=by simpa using hl0
      split
      ·exact hlast _ (lgm hj) _ (lgm hl0')
      ·exact hci.asc hl' hl0'
    ·rw [List.getElem_set,if_neg omA]
     exact h0.key (by simpa using hk)
  ·rw [List.pairwise_iff_getElem]
   intro a b ha hb hab
   have h1:=List.pairwise_iff_getElem.1 h.asc a b (by simpa using ha) (by simpa using hb) hab
   rw [List.getElem_set,List.getElem_set]
   split
   ·rename_i e;subst e;rw [hP,if_neg omA];exact h1
   ·split
    ·rename_i e;subst e;rw [hP];exact h1
    ·exact h1
  ·rw [List.pairwise_iff_getElem]
   intro a b ha hb hab
   have h1:=List.pairwise_iff_getElem.1 h.own a b (by simpa using ha) (by simpa using hb) hab
   rw [List.getElem_set,List.getElem_set]
   split
   ·rename_i e;subst e;rw [hQ,if_neg omA];exact h1
   ·split
    ·rename_i e;subst e;rw [hQ];exact h1
    ·exact h1
 ·exact h
theorem xZ : ∀ (l:List Int) (a:Int),a≤l.foldl max a ∧ ∀ x∈l,x≤l.foldl max a
 | [],a=>⟨Int.le_refl _,fun x hx=>by cases hx⟩
 | y::l,a=>by
   have h:=xZ l (max a y)
   rw [List.foldl_cons]
   refine ⟨by have:=h.1;omega,fun x hx => ?_⟩
   rcases List.mem_cons.1 hx with rfl|hx
   ·have:=h.1;omega
   ·exact h.2 x hx
theorem le_last {rt:List RTab} {t:RTab} (ht:t∈rt) {r:Rcd} (hr:r∈t.recs) {s:Int} (hs:s∈r.seq):s≤dJ rt:=by
 unfold dJ nI
 refine (xZ _ 0).2 s ?_
 unfold iH
 exact List.mem_flatMap.2 ⟨t,ht,List.mem_flatMap.2 ⟨r,hr,hs⟩⟩
theorem EB {α : Type} {p : α → Bool} {l:List α} (h:firstAt p l < 0) : ∀ y∈l,p y=false:=by
 unfold firstAt at h
 split at h
 ·omega
 ·rename_i hn
  intro y hy
  rw [List.findIdx?_eq_none_iff] at hn
  exact hn y hy
structure Ie (ts:List Tab) (x:Chg) (k:Nat) (h:k<ts.length):Prop where
 len:x.row.length=ts[k].ae.length
 vals : ∀ v∈x.row,bM v=true
 typ:fZ ts[k].ae x.row
 day:aB x.day 0 1048576=true
 key:(keyOf x).kind ≠ 0
structure H9 (ts:List Tab) (x:Chg) (k c:Nat) (h:k<ts.length):Prop where
 col:x.column=(c:Int)
 lt:c<ts[k].ae.length
 pos : 0<c
 val:bM x.val=true
 typ:bT x.val ts[k].ae[c].ty=true
theorem qw {ts:List Tab} {x:Chg} (h:cu ts x = 0):bG ts x=false∧(keyOf x).kind ≠ 0∧fZ (dh ts x.table) x.row∧iR (dh ts x.table) x=false∧(x.kind == 2&&pb (dD (dh ts x.table) x.column))=false:=by
 unfold cu at h
 split at h
 ·omega
 ·rename_i h1
  split at h
  ·omega
  ·rename_i h2
   split at h
   ·omega
   ·rename_i h3
    split at h
    ·omega
    ·rename_i h4
     split at h
     ·omega
     ·rename_i h5
      exact ⟨by simpa using h1,by simpa using h2,eF.1 (by simpa using h3),by simpa using h4,by simpa using h5⟩
theorem yH {ts:List Tab} {x:Chg} (h:cu ts x = 0) (hk1:x.kind = 1) {k:Nat} (hin:iU ts x k):Ie ts x k hin.lt:=by
 obtain ⟨h1,h2,h3,h4,h5⟩:=qw h
 have hlt:=hin.lt
 unfold bG at h1
 rw [Bool.or_eq_false_iff] at h1
 obtain ⟨hh,hb⟩:=h1
 have e1:(x.kind == 1)=true:=by simpa using hk1
 rw [e1,if_pos rfl] at hb
 unfold fA at hh
 unfold dU at hb
 simp only [Bool.or_eq_false_iff,Bool.not_eq_false'] at hh hb
 have hr:=hb.2
 unfold wI at hr
 rw [Bool.and_eq_true,List.all_eq_true] at hr
 rw [hin.tab,bI hlt] at h3
 refine ⟨by rw [hin.ins hk1,bI hlt],hr.2,h3,hh.1.2,h2⟩
theorem yF {ts:List Tab} {x:Chg} (h:cu ts x = 0) (hk2:x.kind = 2) {k:Nat} (hin:iU ts x k) : ∃ c,H9 ts x k c hin.lt:=by
 obtain ⟨h1,h2,h3,h4,h5⟩:=qw h
 have hlt:=hin.lt
 obtain ⟨c,hc,hcl⟩:=hin.upd hk2
 rw [bI hlt] at hcl
 unfold bG at h1
 rw [Bool.or_eq_false_iff] at h1
 obtain ⟨hh,hb⟩:=h1
 have e1:(x.kind == 1)=false:=by rw [hk2];rfl
 have e2:(x.kind == 2)=true:=by rw [hk2];rfl
 rw [e1,if_neg (by decide),e2,if_pos rfl] at hb
 unfold dM at hb
 simp only [Bool.or_eq_false_iff,Bool.not_eq_false'] at hb
 unfold iR at h4
 rw [e2,Bool.true_and,Bool.or_eq_false_iff,hin.tab,bI hlt,hc,jC hcl] at h4
 rw [e2,Bool.true_and,hin.tab,bI hlt,hc] at h5
 have h6 : ¬ dD ts[k].ae (c:Int):=fun hf=>by rw [aT hf] at h5;cases h5
 refine ⟨c,hc,hcl,?_,hb.2,by simpa using h4.2⟩
 rcases Nat.eq_zero_or_pos c with rfl|h0
 ·exact absurd (.inl rfl) h6
 ·exact h0
theorem Qe {ts:List Tab} {x:Chg} {k:Nat} (hin:iU ts x k) (hlt:k<ts.length) (hk1:x.kind = 1) (hi:Ie ts x k hlt):gB ts[k].ae (gN x).1 (gN x).2.1 (gN x).2.2:=by
 refine ⟨hi.len,by simpa [gN] using hi.len,hi.day,fun i hic=>⟨fun h=>hi.vals _ (lgm h),fun h hc=>hi.typ i h hc,fun h => ?_,fun h h0 => ?_⟩,fun h => ?_⟩
 ·simp only [gN,List.getElem_replicate];exact hin.seq
 ·simp only [gN,List.getElem_replicate];exact Int.le_refl _
 ·have hk:=hi.key
  unfold keyOf at hk
  rw [if_pos (by simpa using hk1)] at hk
  have h0 : 0<x.row.length:=h
  have e : ∀ (l:List Val) (h : 0<l.length),l.headD ⟨0,0,⟨#[]⟩⟩=l[0]:=fun l h=>by
   cases l with
   | nil=>simp at h
   | cons a t=>rfl
  rw [e _ h0] at hk
  exact hk
theorem oN {x:Chg} (hk:x.kind = 1):keyOf x=aJ (gN x):=by
 unfold keyOf aJ gN
 rw [if_pos (by simpa using hk)]
theorem ES {ts:List Tab} {rt:List RTab} {x:Chg} (h:dZ ts rt x = 0):POk ts (aU (rt.map ax) x):=by
 unfold dZ at h
 split at h
 ·omega
 rename_i h1
 split at h
 ·rename_i h2;rw [h] at h2;simp at h2
 rename_i h2
 split at h
 ·omega
 rename_i h3
 have hok:aO ts rt:=eF.1 (by simpa using h1)
 have hf:cu ts x = 0:=by simpa using h2
 have hlast:dJ rt<x.seq:=by simpa using h3
 have hp:=hok.pure
 obtain ⟨k,hin⟩:=iO hf
 have hlt:=hin.lt
 have hrl:=hok.len
 have hk:k<rt.length:=by omega
 have hkp:k<(rt.map ax).length:=by simpa using hk
 have htab:=hp.tab k hkp hlt
 have hsq : ∀ r∈(rt.map ax)[k],∀ s∈r.2.1,s<x.seq:=by
  intro r hr s hs
  rw [List.getElem_map] at hr
  obtain ⟨y,hy,rfl⟩:=List.mem_map.1 hr
  have:=le_last (lgm hk) hy hs
  omega
 have hfp:iP (iK rt (k:Int)) (keyOf x)=dS (rt.map ax)[k] (keyOf x):=by rw [oK hk,eY,List.getElem_map];rfl
 have hln:(iK rt (k:Int)).length=(rt.map ax)[k].length:=by rw [oK hk,List.getElem_map];simp [ax]
 have hpos : 0<ts[k].ae.length:=(hok.cat.ae hlt).1
 have key:fH ts[k].ae (dn (rt.map ax)[k] x):=by
  unfold iF at h
  rw [hin.tab,hfp,hln] at h
  rcases hin.kind with hk1|hk2|hk3
  ·have hi:=yH hf hk1 hin
   have e1:(x.kind == 1)=true:=by simpa using hk1
   rw [e1] at h
   simp only [Bool.true_and] at h
   split at h
   ·omega
   rename_i h4
   split at h
   ·omega
   split at h
   ·omega
   split at h
   ·omega
   split at h
   ·omega
   rename_i h5
   have h4:dS (rt.map ax)[k] (keyOf x) < 0:=by simpa using h4
   have h5 : ¬ 64≤(rt.map ax)[k].length:=by simpa using h5
   rw [uV hk1 h4 h5]
   have hvk:bM (keyOf x)=true:=by
    rw [oN hk1,jm (by rw [hi.len];exact hpos)]
    exact hi.vals _ (lgm _)
   refine htab.ins omA (Qe hin hlt hk1 hi) (fun y hy he => ?_) (fun y hy he => ?_)
   ·have hy1:=htab.rcd y hy
    have hyl : 0<y.1.length:=by rw [hy1.len];exact hpos
    have hyv:bM (aJ y)=true:=by
     have e:aJ y=y.1[0]:=by
      obtain ⟨a,b⟩:=y
      cases a with
      | nil=>simp at hyl
      | cons u us=>rfl
     rw [e]
     exact (hy1.cell 0 hpos).val hyl
    rw [← oN hk1] at he
    have hee:=qN hyv hvk he
    unfold dS at h4
    rw [if_pos (by rw [hvk];simpa using hi.key)] at h4
    have h6:=EB h4 y hy
    rw [decide_eq_false_iff_not] at h6
    refine h6 ?_
    rw [← hee]
    obtain ⟨a,b⟩:=y
    cases a with
    | nil=>simp at hyl
    | cons u us=>rfl
   ·have hy1:=htab.rcd y hy
    have hyl : 0<y.2.1.length:=by rw [hy1.qW];exact hpos
    have h6:=hsq y hy y.2.1[0] (lgm hyl)
    have e:eX y=y.2.1[0]:=by
     obtain ⟨a,b,c⟩:=y
     cases b with
     | nil=>simp at hyl
     | cons u us=>rfl
    have e2:eX (gN x)=x.seq:=by
     have h0 : 0<x.row.length:=by rw [hi.len];exact hpos
     unfold eX gN
     simp only
     rw [show x.row.length=(x.row.length - 1) + 1 by omega]
     rfl
    rw [e,e2] at he
    omega
  ·obtain ⟨c,hu⟩:=yF hf hk2 hin
   by_cases hz:dS (rt.map ax)[k] (keyOf x) < 0
   ·rw [sI omA hz];exact htab
   ·obtain ⟨j,hj,he⟩:=nT (Int.not_lt.1 hz)
    rw [uU hk2 he]
    exact htab.upd j hu.col hu.pos hu.lt hu.val hu.typ hin.seq fun r hr s hs=>Int.le_of_lt (hsq r hr s hs)
  ·by_cases hz:dS (rt.map ax)[k] (keyOf x) < 0
   ·rw [sI omA hz];exact htab
   ·obtain ⟨j,hj,he⟩:=nT (Int.not_lt.1 hz)
    rw [uW omA omA he]
    exact htab.cut j
 have hpe:aU (rt.map ax) x=(rt.map ax).set k (dn (rt.map ax)[k] x):=by
  unfold aU
  rw [hin.tab,Int.toNat_natCast,gX hkp]
 rw [hpe]
 refine ⟨by simpa using hp.len,fun i hi hi' => ?_⟩
 rw [List.getElem_set]
 split
 ·rename_i e
  subst e
  exact key
 ·exact hp.tab i (by simpa using hi) hi'
structure fT (l:List bB):Prop where
 row : ∀ r∈l,0<r.1.length
 val : ∀ r∈l,bM (aJ r)=true
 asc:l.Pairwise (fun a b=>aY (aJ a) (aJ b) < 0)
theorem oP {r:bB} (h : 0<r.1.length):aJ r=r.1[0]:=by
 obtain ⟨a,b⟩:=r
 cases a with
 | nil=>simp at h
 | cons u us=>rfl
theorem fH.keys {ae:List Col} {l:List bB} (h:fH ae l) (h0 : 0<ae.length):fT l :=
 ⟨fun r hr=>by rw [(h.rcd r hr).len];exact h0,fun r hr=>by
  have hl : 0<r.1.length:=by rw [(h.rcd r hr).len];exact h0
  rw [oP hl]
  exact ((h.rcd r hr).cell 0 h0).val hl,h.asc⟩
def eU (l:List bB) (key:Val):Nat:=(l.takeWhile fun y=>decide (aY (aJ y) key < 0)).length
def df (l:List bB) (key:Val):Bool:=match l[eU l key]? with
 | some r=>decide (aJ r=key)
 | none=>false
theorem xQ (l:List bB) (r:bB):gG l r=eU l (aJ r):=rfl
theorem Dq {α : Type} {p : α → Bool} : ∀ {l:List α} {i:Nat} (hi:i≤l.length),(∀ j (h:j<l.length),j<i→p l[j]=true)→(∀ h:i<l.length,p l[i]=false)→(l.takeWhile p).length=i
 | [],i,hi,_,_=>by simp at hi;simp [hi]
 | a::l,0,_,_,h2=>by
   have h:=h2 spA
   rw [List.takeWhile_cons,if_neg (by simpa using h)]
   rfl
 | a::l,i + 1,hi,h1,h2=>by
   have h:=h1 0 spA omA
   rw [List.takeWhile_cons,if_pos (by simpa using h),List.length_cons,Dq (l:=l) (i:=i) (by simpa using hi) (fun j hj hji=>by have:=h1 (j + 1) (by simpa using hj) omA;simpa using this) (fun h=>by have:=h2 (by simpa using h);simpa using this)]
theorem nO {l:List bB} {key:Val} {i:Nat} (hi:i≤l.length) (hlo : ∀ j (h:j<l.length),j<i → 0<aY key (aJ l[j])) (hhi : ∀ h:i<l.length,aY key (aJ l[i]) ≤ 0):eU l key=i:=by
 unfold eU
 refine Dq hi (fun j h hji => ?_) (fun h => ?_)
 ·have h1:=hlo j h hji
  have h2:=bN.pQ key (aJ l[j])
  exact decide_eq_true omA
 ·have h1:=hhi h
  have h2:=bN.pQ key (aJ l[i])
  exact decide_eq_false omA
theorem fT.mono {l:List bB} (h:fT l) {key:Val} {i j:Nat} (hij:i<j) (hj:j<l.length) (hc:aY key (aJ (l[i]' omA)) ≤ 0):aY key (aJ l[j]) < 0:=by
 have h1:=List.pairwise_iff_getElem.1 h.asc i j omA hj hij
 have h2:=bN.pQ key (aJ (l[i]' omA))
 have h3:=bN.trans (aJ l[j]) (aJ (l[i]' omA)) key
 have h4:=bN.pQ (aJ (l[i]' omA)) (aJ l[j])
 have h5:=bN.pQ key (aJ l[j])
 rcases Int.lt_or_le (aY key (aJ l[j])) 0 with h6|h6
 ·exact h6
 ·have h7:=bN.DZ h1 (z:=key) omA
  omega
theorem jq {l:List bB} (h:fT l) {key:Val} (hv:bM key=true) {i:Nat} (hp:eU l key=i):df l key=true ↔ ∃ hi:i<l.length,aY key (aJ l[i]) = 0:=by
 unfold df
 rw [hp]
 constructor
 ·intro hf
  rcases Nat.lt_or_ge i l.length with hi|hi
  ·rw [List.getElem?_eq_getElem hi] at hf
   have e:aJ l[i]=key:=by simpa using hf
   exact ⟨hi,by rw [e];exact bN.refl key⟩
  ·rw [List.getElem?_eq_none hi] at hf
   cases hf
 ·rintro ⟨hi,hc⟩
  rw [List.getElem?_eq_getElem hi]
  exact decide_eq_true (qN hv (h.val _ (lgm hi)) hc).symm
theorem vD {r:bB} {key:Val} (h : 0<r.1.length):r.1.head? = some key↔aJ r=key:=by
 obtain ⟨a,b⟩:=r
 cases a with
 | nil=>simp at h
 | cons u us=>simp [aJ]
theorem jI {l:List bB} (h:fT l) {key:Val} (hv:bM key=true) (hk:key.kind ≠ 0) (hf:df l key=true):dS l key=(eU l key:Int):=by
 obtain ⟨hi,hc⟩:=(jq h hv rfl).1 hf
 unfold dS
 rw [if_pos (by rw [hv];simpa using hk)]
 refine sV hi ?_ fun j hj hji => ?_
 ·have e:=qN hv (h.val _ (lgm hi)) hc
  exact decide_eq_true ((vD (h.row _ (lgm hi))).2 e.symm)
 ·rw [decide_eq_false_iff_not,vD (h.row _ (lgm hj))]
  intro e
  have h1:=List.pairwise_iff_getElem.1 h.asc j (eU l key) hj hi hji
  rw [e] at h1
  omega
theorem yM {l:List bB} (h:fT l) {key:Val} (hv:bM key=true) (hf:df l key=false):dS l key < 0:=by
 rcases Int.lt_or_le (dS l key) 0 with h1|h1
 ·exact h1
 exfalso
 unfold dS at h1
 split at h1
 ·rename_i hc
  obtain ⟨m,hm,he,hp⟩:=jH h1
  have e:aJ l[m]=key:=(vD (h.row _ (lgm hm))).1 (by simpa using hp)
  have hpl:eU l key=m:=nO omA (fun j hj hji=>by
   have h2:=List.pairwise_iff_getElem.1 h.asc j m hj hm hji
   rw [e] at h2
   have h3:=bN.pQ key (aJ l[j])
   omega) (fun _=>by rw [e,bN.refl];exact Int.le_refl _)
  have h4:=(jq h hv hpl).2 ⟨hm,by rw [e];exact bN.refl key⟩
  rw [h4] at hf
  cases hf
 ·omega
theorem yJ {l:List bB} (h:fT l) {key:Val} (hv:bM key=true) (hk:key.kind ≠ 0):decide (0≤dS l key)=df l key:=by
 cases hf:df l key
 ·exact decide_eq_false (by have:=yM h hv hf;omega)
 ·exact decide_eq_true (by rw [jI h hv hk hf];omega)
theorem zK {l:List bB} (h:fT l) {x:Chg} (hk1:x.kind = 1) (hv:bM (keyOf x)=true) (hf:df l (keyOf x)=false) (hl:l.length < 64):dn l x=l.take (eU l (keyOf x))++gN x::l.drop (eU l (keyOf x)):=by
 rw [uV hk1 (yM h hv hf) omA]
 unfold nS
 rw [xQ,← oN hk1,List.append_assoc]
 rfl
theorem Fs {α : Type} {l:List α} {i:Nat} (hi:i<l.length) (y : α):l.set i y=l.take i++y::l.drop (i + 1):=by
 rw [List.set_eq_take_append_cons_drop,if_pos hi]
theorem zJ {l:List bB} (h:fT l) {x:Chg} (hk1:x.kind = 1) (hv:bM (keyOf x)=true) (hkk:(keyOf x).kind ≠ 0) (hf:df l (keyOf x)=true):dn l x=l.set (eU l (keyOf x)) (gN x):=by
 rw [Ar hk1 (jI h hv hkk hf)]
 obtain ⟨i,hie⟩ : ∃ i,eU l (keyOf x)=i:=⟨_,rfl⟩
 obtain ⟨hi,hc⟩:=(jq h hv hie).1 hf
 rw [hie]
 have hlen:(l.take i).length=i:=by rw [List.length_take];omega
 have hp:gG (iW l i) (gN x)=i:=by
  rw [xQ,← oN hk1]
  refine nO (by unfold iW;simp;omega) (fun j hj hji => ?_) (fun hj => ?_)
  ·have hjl:j<l.length:=by omega
   have e0:(iW l i)[j]? = l[j]? := by
    unfold iW
    rw [List.getElem?_append_left (by rw [hlen];exact hji),List.getElem?_take_of_lt hji]
   rw [List.getElem?_eq_getElem hj,List.getElem?_eq_getElem hjl] at e0
   have e1:=Option.some.inj e0
   rw [e1]
   have h2:=List.pairwise_iff_getElem.1 h.asc j i hjl hi hji
   have h3:=bN.pQ (aJ l[j]) (aJ l[i])
   have h4:keyOf x=aJ l[i]:=by
    have:=qN hv (h.val _ (lgm hi)) hc
    exact this
   rw [h4]
   omega
  ·have hjl:i + 1<l.length:=by unfold iW at hj;simp at hj;omega
   have e0:(iW l i)[i]? = l[i + 1]? := by
    unfold iW
    rw [List.getElem?_append_right (by rw [hlen];exact Nat.le_refl _),hlen,List.getElem?_drop]
    congr 1
    omega
   rw [List.getElem?_eq_getElem hj,List.getElem?_eq_getElem hjl] at e0
   have e1:=Option.some.inj e0
   rw [e1]
   exact Int.le_of_lt (h.mono (Nat.lt_succ_self i) hjl omA)
 unfold nS
 rw [hp,Fs hi]
 have t1:(iW l i).take i=l.take i:=by unfold iW;exact List.take_left' hlen
 have t2:(iW l i).drop i=l.drop (i + 1):=by unfold iW;exact List.drop_left' hlen
 rw [t1,t2,List.append_assoc]
 rfl
theorem tY {l:List bB} (h:fT l) {x:Chg} (hk3:x.kind = 3) (hv:bM (keyOf x)=true) (hkk:(keyOf x).kind ≠ 0) (hf:df l (keyOf x)=true):dn l x=iW l (eU l (keyOf x)):=uW omA omA (jI h hv hkk hf)
theorem BI {l:List bB} (h:fT l) {x:Chg} (hk2:x.kind = 2) (hv:bM (keyOf x)=true) (hkk:(keyOf x).kind ≠ 0) (hf:df l (keyOf x)=true):dn l x=updP l (eU l (keyOf x)) x:=uU hk2 (jI h hv hkk hf)
theorem yG {ts:List Tab} {x:Chg} (h:cu ts x = 0) (hok:aV ts):bM (keyOf x)=true∧(keyOf x).kind ≠ 0:=by
 obtain ⟨h1,h2,_,_,_⟩:=qw h
 refine ⟨?_,h2⟩
 obtain ⟨k,hin⟩:=iO h
 rcases hin.kind with hk1|hk2|hk3
 ·have hi:=yH h hk1 hin
  rw [oN hk1,jm (by rw [hi.len];exact (hok.ae hin.lt).1)]
  exact hi.vals _ (lgm _)
 ·unfold bG at h1
  rw [Bool.or_eq_false_iff] at h1
  have hb:=h1.2
  have e1:(x.kind == 1)=false:=by rw [hk2];rfl
  have e2:(x.kind == 2)=true:=by rw [hk2];rfl
  rw [e1,if_neg (by decide),e2,if_pos rfl] at hb
  unfold dM at hb
  simp only [Bool.or_eq_false_iff,Bool.not_eq_false'] at hb
  unfold keyOf
  rw [if_neg (by rw [e1];decide)]
  exact hb.1.1.2
 ·unfold bG at h1
  rw [Bool.or_eq_false_iff] at h1
  have hb:=h1.2
  have e1:(x.kind == 1)=false:=by rw [hk3];rfl
  have e2:(x.kind == 2)=false:=by rw [hk3];rfl
  rw [e1,if_neg (by decide),e2,if_neg (by decide)] at hb
  unfold eG at hb
  simp only [Bool.or_eq_false_iff,Bool.not_eq_false'] at hb
  unfold keyOf
  rw [if_neg (by rw [e1];decide)]
  exact hb.2
def kJ (m:Nat) (x:Chg):Bool:=decide (x.seq < 1)||(decide (1073741824<x.seq)||(decide (x.day < 0)||(decide (1048576<x.day)||(decide (x.table < 0)||decide ((m:Int)≤x.table)))))
noncomputable def jl (ae:List Col) (x:Chg):Int:=if dU ae.length x=true then 1 else if ((keyOf x).kind == 0)=true then 6 else if pb (fZ ae x.row)=false then 5 else 0
noncomputable def ni (ae:List Col) (x:Chg):Int:=if dM ae.length x=true then 1 else if (x.key.kind == 0)=true then 6 else if (!bT x.val (tyAt ae x.column)||x.key.kind != tyAt ae 0)=true then 5 else if pb (dD ae x.column)=true then 11 else 0
def nD (ae:List Col) (x:Chg):Int:=if eG x=true then 1 else if (x.key.kind == 0)=true then 6 else if (x.key.kind != tyAt ae 0)=true then 5 else 0
theorem oZ {m:Nat} {x:Chg}:fA m x=(!aB x.kind 1 3||kJ m x):=by
 unfold fA kJ aB
 by_cases h1 : 1≤x.kind <;> by_cases h2:x.kind ≤ 3 <;> by_cases h3 : 1≤x.seq <;> by_cases h4:x.seq ≤ 1073741824 <;> by_cases h5 : 0≤x.day <;> by_cases h6:x.day ≤ 1048576 <;> by_cases h7 : 0≤x.table <;> by_cases h8:x.table≤(m:Int) - 1 <;> simp [h1,h2,h3,h4,h5,h6,h7,h8] <;> omega
theorem JD {ts:List Tab} {x:Chg} (h:kJ ts.length x=true):cu ts x = 1:=by
 unfold cu
 rw [if_pos]
 unfold bG
 rw [oZ,h]
 simp
theorem JE {ts:List Tab} {x:Chg} (h1:x.kind ≠ 1) (h2:x.kind ≠ 2) (h3:x.kind ≠ 3):cu ts x = 1:=by
 unfold cu
 rw [if_pos]
 unfold bG
 rw [oZ]
 have:aB x.kind 1 3=false:=by
  unfold aB
  by_cases h4 : 1≤x.kind <;> by_cases h5:x.kind ≤ 3 <;> simp [h4,h5]
  omega
 rw [this]
 simp
section
variable {ts:List Tab} {x:Chg} {k:Nat}
theorem Cn (h:kJ ts.length x=false) (hk:x.kind = 1∨x.kind = 2∨x.kind = 3):fA ts.length x=false:=by
 rw [oZ,h]
 have:aB x.kind 1 3=true:=by rcases hk with h|h|h <;> rw [h] <;> decide
 rw [this]
 rfl
theorem Ew (h:kJ ts.length x=false) (hk:x.kind = 1) (ht:x.table=(k:Int)) (hkt:k<ts.length) (h0 : 0<ts[k].ae.length):cu ts x=jl ts[k].ae x:=by
 have hh:=Cn h (.inl hk)
 have e1:(x.kind == 1)=true:=by rw [hk];rfl
 have e2:(x.kind == 2)=false:=by rw [hk];rfl
 have hinv:bG ts x=dU ts[k].ae.length x:=by
  unfold bG
  rw [hh,e1,ht,bI hkt]
  rfl
 unfold cu jl iR
 rw [hinv,e2,ht,bI hkt]
 simp only [Bool.false_and,Bool.or_false,Bool.false_eq_true,if_false]
 split
 ·rfl
 rename_i hb
 split
 ·rfl
 split
 ·rfl
 rename_i hr
 have hr:fZ ts[k].ae x.row:=eF.1 (by simpa using hr)
 have hlen:x.row.length=ts[k].ae.length:=by
  unfold dU at hb
  simp only [Bool.not_eq_true,Bool.or_eq_false_iff] at hb
  have:=hb.1.2
  have:((x.row.length:Int)=(ts[k].ae.length:Int)):=by simpa using this
  omega
 have hl0 : 0<x.row.length:=by omega
 have hkey:keyOf x=x.row[0]:=by rw [oN hk,jm hl0]
 have hty:=hr 0 hl0 h0
 rw [if_neg]
 rw [hkey,show (0:Int)=((0:Nat):Int) from rfl,jC h0,hty]
 decide
theorem Ae {v:Val} {t:Int} (h:(v.kind == 0)=false):(!bT v t)=(v.kind != t):=by
 unfold bT
 rw [h]
 simp [bne]
theorem Ev (h:kJ ts.length x=false) (hk:x.kind = 2) (ht:x.table=(k:Int)) (hkt:k<ts.length):cu ts x=ni ts[k].ae x:=by
 have hh:=Cn h (.inr (.inl hk))
 have e1:(x.kind == 1)=false:=by rw [hk];rfl
 have e2:(x.kind == 2)=true:=by rw [hk];rfl
 have ek:keyOf x=x.key:=by unfold keyOf;rw [e1,if_neg (by decide)]
 have hinv:bG ts x=dM ts[k].ae.length x:=by
  unfold bG
  rw [hh,e1,e2,ht,bI hkt]
  rfl
 unfold cu ni iR
 rw [hinv,e2,ht,bI hkt,ek]
 simp only [Bool.true_and]
 split
 ·rfl
 rename_i hb
 split
 ·rfl
 rename_i hz
 have hz:(x.key.kind == 0)=false:=by simpa using hz
 have hrow:x.row = []:=by
  unfold dM at hb
  simp only [Bool.not_eq_true,Bool.or_eq_false_iff] at hb
  have:=hb.1.1.1
  have : ¬ 0<x.row.length:=by simpa using this
  exact List.eq_nil_of_length_eq_zero omA
 have hr:pb (fZ ts[k].ae x.row)=true:=aT fun i h _=>by rw [hrow] at h;simp at h
 rw [hr,Ae hz,Bool.or_comm]
 simp
theorem Ex (h:kJ ts.length x=false) (hk:x.kind = 3) (ht:x.table=(k:Int)) (hkt:k<ts.length):cu ts x=nD ts[k].ae x:=by
 have hh:=Cn h (.inr (.inr hk))
 have e1:(x.kind == 1)=false:=by rw [hk];rfl
 have e2:(x.kind == 2)=false:=by rw [hk];rfl
 have ek:keyOf x=x.key:=by unfold keyOf;rw [e1,if_neg (by decide)]
 have hinv:bG ts x=eG x:=by
  unfold bG
  rw [hh,e1,e2,ht]
  rfl
 unfold cu nD iR
 rw [hinv,e2,ht,bI hkt,ek]
 simp only [Bool.false_and,Bool.or_false]
 split
 ·rfl
 rename_i hb
 split
 ·rfl
 rename_i hz
 have hz:(x.key.kind == 0)=false:=by simpa using hz
 have hrow:x.row = []:=by
  unfold eG at hb
  simp only [Bool.not_eq_true,Bool.or_eq_false_iff] at hb
  have:=hb.1.1.1
  have : ¬ 0<x.row.length:=by simpa using this
  exact List.eq_nil_of_length_eq_zero omA
 have hr:pb (fZ ts[k].ae x.row)=true:=aT fun i h _=>by rw [hrow] at h;simp at h
 rw [hr,Ae hz]
 simp
end
end Go.Proofs.YtkiglflbngfelaaGreat
