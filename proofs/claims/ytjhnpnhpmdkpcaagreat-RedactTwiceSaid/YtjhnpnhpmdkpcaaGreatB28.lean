/-
  Contracts and plain laws of this seat, part 28: StepE, FindE, FormE.
-/
import Derived.Test.YtjhnpnhpmdkpcaaGreatB17
set_option linter.unusedVariables false
set_option linter.unusedSimpArgs false
set_option maxRecDepth 100000
set_option maxHeartbeats 16000000
namespace Go.Proofs.YtjhnpnhpmdkpcaaGreat
open Go.RowKit
theorem cmpVal_eq {x y:Val} (hx:valB x=true) (hy:valB y=true) (h:cmpVal x y = 0):x=y:=by
 rw [cmpVal_fields,clean_yes hx,clean_yes hy] at h
 exact cmpFields_eq h
def headQ (r:PRec):Int:=r.2.1.headD 0
structure PTabOk (cols:List Col) (l:List PRec):Prop where
 len:l.length ≤ 64
 rcd : ∀ r∈l,RcdOk cols r.1 r.2.1 r.2.2
 asc:l.Pairwise (fun a b=>cmpVal (headP a) (headP b) < 0)
 own:l.Pairwise (fun a b=>headQ a≠headQ b)
structure POk (ts:List Tab) (pl:List (List PRec)):Prop where
 len:pl.length=ts.length
 tab : ∀ i (h:i<pl.length) (h':i<ts.length),PTabOk ts[i].cols pl[i]
theorem chain_pair {l:List PRec} (h : ∀ k (hk:k<l.length) (h0 : 0<k),cmpVal (headP (l[k - 1]' omA)) (headP l[k]) < 0):l.Pairwise (fun a b=>cmpVal (headP a) (headP b) < 0):=by
 rw [List.pairwise_iff_getElem]
 intro i j hi hj hij
 obtain ⟨d,rfl⟩ : ∃ d,j=i + 1+d:=⟨j - (i + 1),by omega⟩
 clear hij
 induction d with
 | zero=>exact h (i + 1) hj omA
 | succ d ih =>
   have h1:=ih omA
   have h2:=h (i + 1+(d + 1)) hj omA
   have e:l[i + 1+(d + 1) - 1]' omA=l[i + 1+d]' omA:=by congr 1
   rw [e] at h2
   exact cmpVal_ok.lt_le h1 omA
theorem mem_takeW {α : Type} {p : α → Bool} : ∀ {l:List α} {y : α},y∈l.takeWhile p→p y=true
 | [],_,h=>by cases h
 | a::l,y,h=>by
   rw [List.takeWhile_cons] at h
   split at h
   ·rename_i ha
    rcases List.mem_cons.1 h with rfl|h1
    ·exact ha
    ·exact mem_takeW h1
   ·cases h
theorem RTabOk.pure {cols:List Col} {recs:List Rcd} (h:RTabOk cols recs):PTabOk cols (recs.map pureR):=by
 refine ⟨by simpa using h.len,fun r hr => ?_,chain_pair fun k hk h0 => ?_,?_⟩
 ·obtain ⟨x,hx,rfl⟩:=List.mem_map.1 hr
  obtain ⟨j,hj,rfl⟩:=List.getElem_of_mem hx
  exact (h.at_ j hj).ok
 ·have hk':k<recs.length:=by simpa using hk
  rw [List.getElem_map,List.getElem_map]
  exact (h.at_ k hk').asc h0
 ·rw [List.pairwise_iff_getElem]
  intro i j hi hj hij
  rw [List.getElem_map,List.getElem_map]
  have hj':j<recs.length:=by simpa using hj
  exact (h.at_ j hj').own i hij
theorem PTabOk.back {cols:List Col} {recs:List Rcd} (h:PTabOk cols (recs.map pureR)):RTabOk cols recs:=by
 refine ⟨by simpa using h.len,fun k hk=>⟨h.rcd (pureR recs[k]) (List.mem_map_of_mem (lgm hk)),fun h0 => ?_,fun j hj => ?_⟩⟩
 ·have h1:=List.pairwise_iff_getElem.1 h.asc (k - 1) k smA (by simpa using hk) omA
  rw [List.getElem_map,List.getElem_map] at h1
  exact h1
 ·have h1:=List.pairwise_iff_getElem.1 h.own j k smA (by simpa using hk) hj
  rw [List.getElem_map,List.getElem_map] at h1
  exact h1
theorem RTabsOk.pure {ts:List Tab} {rt:List RTab} (h:RTabsOk ts rt):POk ts (rt.map pureT) :=
 ⟨by simpa using h.len,fun i hi hi'=>by rw [List.getElem_map];exact (h.tab i (by simpa using hi) hi').pure⟩
theorem POk.back {ts:List Tab} {rt:List RTab} (hok:CatOk ts) (h:POk ts (rt.map pureT)):RTabsOk ts rt :=
 ⟨hok,by simpa using h.len,fun i hi hi'=>by have h1:=h.tab i (by simpa using hi) hi';rw [List.getElem_map] at h1;exact h1.back⟩
theorem POk.zero (ts:List Tab):POk ts (List.replicate ts.length []) :=
 ⟨by simp,fun i hi hi'=>by rw [List.getElem_replicate];exact ⟨by simp,fun r hr=>(by cases hr),List.Pairwise.nil,List.Pairwise.nil⟩⟩
theorem PTabOk.cut {cols:List Col} {l:List PRec} (h:PTabOk cols l) (j:Nat):PTabOk cols (cutP l j):=by
 have hs:(cutP l j).Sublist l:=by
  have h1:(l.drop (j + 1)).Sublist (l.drop j):=by rw [← List.drop_drop];exact List.drop_sublist _ _
  have h2:=(List.Sublist.refl (l.take j)).append h1
  rwa [List.take_append_drop] at h2
 exact ⟨Nat.le_trans hs.length_le h.len,fun r hr=>h.rcd r (hs.subset hr),h.asc.sublist hs,h.own.sublist hs⟩
theorem insP_perm (l:List PRec) (r:PRec):(insP l r).Perm (r::l):=by
 unfold insP
 have h1 := @List.perm_middle _ r (l.take (placeP l r)) (l.drop (placeP l r))
 rw [List.take_append_drop] at h1
 simpa using h1
theorem asc_ins {l:List PRec} (h:l.Pairwise (fun a b=>cmpVal (headP a) (headP b) < 0)) {r:PRec} (hne : ∀ y∈l,cmpVal (headP y) (headP r) ≠ 0):(insP l r).Pairwise (fun a b=>cmpVal (headP a) (headP b) < 0):=by
 have hlt : ∀ y∈l.take (placeP l r),cmpVal (headP y) (headP r) < 0:=by
  intro y hy
  have e:l.take (placeP l r)=l.takeWhile fun y=>decide (cmpVal (headP y) (headP r) < 0):=by
   conv=>lhs;arg 2;rw [← List.takeWhile_append_dropWhile (p:=fun y=>decide (cmpVal (headP y) (headP r) < 0)) (l:=l)]
   exact List.take_left' rfl
  rw [e] at hy
  have h1:=mem_takeW hy
  simpa using h1
 have hge : ∀ y∈l.drop (placeP l r),cmpVal (headP r) (headP y) < 0:=by
  have e:l.drop (placeP l r)=l.dropWhile fun y=>decide (cmpVal (headP y) (headP r) < 0):=by
   conv=>lhs;arg 2;rw [← List.takeWhile_append_dropWhile (p:=fun y=>decide (cmpVal (headP y) (headP r) < 0)) (l:=l)]
   exact List.drop_left' rfl
  have hd:(l.drop (placeP l r)).Pairwise (fun a b=>cmpVal (headP a) (headP b) < 0):=h.sublist (List.drop_sublist _ _)
  have hm : ∀ y∈l.drop (placeP l r),y∈l:=fun y hy=>List.mem_of_mem_drop hy
  cases hc:l.drop (placeP l r) with
  | nil=>intro y hy;cases hy
  | cons z zs =>
    have hz : ¬ cmpVal (headP z) (headP r) < 0:=by
     have h1:(l.dropWhile fun y=>decide (cmpVal (headP y) (headP r) < 0)).head? = some z:=by rw [← e,hc];rfl
     have h2:=List.head?_dropWhile_not (fun y=>decide (cmpVal (headP y) (headP r) < 0)) l
     rw [h1] at h2
     simpa using h2
    rw [hc] at hd hm
    have hz0:=hne z (hm z spA)
    have ha:=cmpVal_ok.anti (headP z) (headP r)
    intro y hy
    rcases List.mem_cons.1 hy with rfl|hy
    ·omega
    ·have h3:=(List.pairwise_cons.1 hd).1 y hy
     have h4:cmpVal (headP r) (headP z) < 0:=by omega
     exact cmpVal_ok.lt_le h4 omA
 unfold insP
 rw [List.append_assoc]
 refine List.pairwise_append.2 ⟨h.sublist (List.take_sublist _ _),List.pairwise_append.2 ⟨List.pairwise_singleton _ _,h.sublist (List.drop_sublist _ _),fun a ha b hb => ?_⟩,fun a ha b hb => ?_⟩
 ·rw [List.mem_singleton.1 ha];exact hge b hb
 ·rcases List.mem_append.1 hb with h1|h1
  ·rw [List.mem_singleton.1 h1];exact hlt a ha
  ·exact cmpVal_ok.lt_le (hlt a ha) (by have:=hge b h1;omega)
theorem PTabOk.ins {cols:List Col} {l:List PRec} (h:PTabOk cols l) (hl:l.length < 64) {r:PRec} (hr:RcdOk cols r.1 r.2.1 r.2.2) (hne : ∀ y∈l,cmpVal (headP y) (headP r) ≠ 0) (hown : ∀ y∈l,headQ y≠headQ r):PTabOk cols (insP l r):=by
 have hp:=insP_perm l r
 refine ⟨by rw [hp.length_eq,List.length_cons];omega,fun y hy => ?_,asc_ins h.asc hne,?_⟩
 ·rcases List.mem_cons.1 (hp.mem_iff.1 hy) with rfl|h1
  ·exact hr
  ·exact h.rcd y h1
 ·refine (List.Perm.pairwise_iff (fun {a b} (h:headQ a≠headQ b)=>Ne.symm h) hp).2 (List.pairwise_cons.2 ⟨fun y hy=>(hown y hy).symm,h.own⟩)
theorem PTabOk.upd {cols:List Col} {l:List PRec} (h:PTabOk cols l) (j:Nat) {x:Chg} {c:Nat} (hx:x.column=(c:Int)) (hc0 : 0<c) (hc:c<cols.length) (hv:valB x.val=true) (ht:typedB x.val cols[c].ty=true) (hs:withinB x.seq 1 1073741824=true) (hlast : ∀ r∈l,∀ s∈r.2.1,s≤x.seq):PTabOk cols (updP l j x):=by
 unfold updP
 split
 ·rename_i r hr
  have hm:=List.mem_of_getElem? hr
  obtain ⟨hj,rfl⟩:=List.getElem?_eq_some_iff.1 hr
  have h0:=h.rcd _ hm
  rw [hx,Int.toNat_natCast]
  have hP : ∀ (a:PRec),headP (a.1.set c x.val,a.2.1.set c x.seq,a.2.2)=headP a:=by
   rintro ⟨a,b,d⟩
   unfold headP
   cases a with
   | nil=>rfl
   | cons u us=>rw [show c=(c - 1) + 1 by omega];rfl
  have hQ : ∀ (a:PRec),headQ (a.1.set c x.val,a.2.1.set c x.seq,a.2.2)=headQ a:=by
   rintro ⟨a,b,d⟩
   unfold headQ
   cases b with
   | nil=>rfl
   | cons u us=>rw [show c=(c - 1) + 1 by omega];rfl
  refine ⟨by simpa using h.len,fun y hy => ?_,?_,?_⟩
  ·rcases List.mem_or_eq_of_mem_set hy with h1|rfl
   ·exact h.rcd y h1
   ·refine ⟨by simpa using h0.len,by simpa using h0.slen,h0.day,fun i hi => ?_,fun hk => ?_⟩
    ·have hci:=h0.cell i hi
     refine ⟨fun hl => ?_,fun hl hk => ?_,fun hl => ?_,fun hl hl0 => ?_⟩
     ·rw [List.getElem_set]
      split
      ·exact hv
      ·exact hci.val (by simpa using hl)
     ·rw [List.getElem_set]
      split
      ·rename_i he
       subst he
       exact ht
      ·exact hci.typ (by simpa using hl) hk
     ·rw [List.getElem_set]
      split
      ·exact hs
      ·exact hci.pos (by simpa using hl)
     ·rw [List.getElem_set,List.getElem_set,if_neg omA]
      have hl':i<l[j].2.1.length:=by simpa using hl
      have hl0' : 0<l[j].2.1.length:=by simpa using hl0
      split
      ·exact hlast _ (lgm hj) _ (lgm hl0')
      ·exact hci.asc hl' hl0'
    ·rw [List.getElem_set,if_neg omA]
     exact h0.key (by simpa using hk)
  ·rw [List.pairwise_iff_getElem]
   intro a b ha hb hab
   have h1:=List.pairwise_iff_getElem.1 h.asc a b (by simpa using ha) (by simpa using hb) hab
   rw [List.getElem_set,List.getElem_set]
   split
   ·rename_i e;subst e;rw [hP,if_neg omA];exact h1
   ·split
    ·rename_i e;subst e;rw [hP];exact h1
    ·exact h1
  ·rw [List.pairwise_iff_getElem]
   intro a b ha hb hab
   have h1:=List.pairwise_iff_getElem.1 h.own a b (by simpa using ha) (by simpa using hb) hab
   rw [List.getElem_set,List.getElem_set]
   split
   ·rename_i e;subst e;rw [hQ,if_neg omA];exact h1
   ·split
    ·rename_i e;subst e;rw [hQ];exact h1
    ·exact h1
 ·exact h
theorem le_foldmax : ∀ (l:List Int) (a:Int),a≤l.foldl max a ∧ ∀ x∈l,x≤l.foldl max a
 | [],a=>⟨Int.le_refl _,fun x hx=>by cases hx⟩
 | y::l,a=>by
   have h:=le_foldmax l (max a y)
   rw [List.foldl_cons]
   refine ⟨by have:=h.1;omega,fun x hx => ?_⟩
   rcases List.mem_cons.1 hx with rfl|hx
   ·have:=h.1;omega
   ·exact h.2 x hx
theorem le_last {rt:List RTab} {t:RTab} (ht:t∈rt) {r:Rcd} (hr:r∈t.recs) {s:Int} (hs:s∈r.seq):s≤lastOfT rt:=by
 unfold lastOfT topOf
 refine (le_foldmax _ 0).2 s ?_
 unfold seqsOf
 exact List.mem_flatMap.2 ⟨t,ht,List.mem_flatMap.2 ⟨r,hr,hs⟩⟩
theorem firstAt_neg {α : Type} {p : α → Bool} {l:List α} (h:firstAt p l < 0) : ∀ y∈l,p y=false:=by
 unfold firstAt at h
 split at h
 ·omega
 ·rename_i hn
  intro y hy
  rw [List.findIdx?_eq_none_iff] at hn
  exact hn y hy
structure InsForm (ts:List Tab) (x:Chg) (k:Nat) (h:k<ts.length):Prop where
 len:x.row.length=ts[k].cols.length
 vals : ∀ v∈x.row,valB v=true
 typ:RowTyped ts[k].cols x.row
 day:withinB x.day 0 1048576=true
 key:(keyOf x).kind ≠ 0
structure UpdForm (ts:List Tab) (x:Chg) (k c:Nat) (h:k<ts.length):Prop where
 col:x.column=(c:Int)
 lt:c<ts[k].cols.length
 pos : 0<c
 val:valB x.val=true
 typ:typedB x.val ts[k].cols[c].ty=true
theorem formE_parts {ts:List Tab} {x:Chg} (h:formE ts x = 0):invalidB ts x=false∧(keyOf x).kind ≠ 0∧RowTyped (colsAt ts x.table) x.row∧badTyp (colsAt ts x.table) x=false∧(x.kind == 2&&pb (FixedCol (colsAt ts x.table) x.column))=false:=by
 unfold formE at h
 split at h
 ·omega
 ·rename_i h1
  split at h
  ·omega
  ·rename_i h2
   split at h
   ·omega
   ·rename_i h3
    split at h
    ·omega
    ·rename_i h4
     split at h
     ·omega
     ·rename_i h5
      exact ⟨by simpa using h1,by simpa using h2,pb_iff.1 (by simpa using h3),by simpa using h4,by simpa using h5⟩
theorem form_ins {ts:List Tab} {x:Chg} (h:formE ts x = 0) (hk1:x.kind = 1) {k:Nat} (hin:InForm ts x k):InsForm ts x k hin.lt:=by
 obtain ⟨h1,h2,h3,h4,h5⟩:=formE_parts h
 have hlt:=hin.lt
 unfold invalidB at h1
 rw [Bool.or_eq_false_iff] at h1
 obtain ⟨hh,hb⟩:=h1
 have e1:(x.kind == 1)=true:=by simpa using hk1
 rw [e1,if_pos rfl] at hb
 unfold badHead at hh
 unfold badIns at hb
 simp only [Bool.or_eq_false_iff,Bool.not_eq_false'] at hh hb
 have hr:=hb.2
 unfold rowB at hr
 rw [Bool.and_eq_true,List.all_eq_true] at hr
 rw [hin.tab,colsAt_get hlt] at h3
 refine ⟨by rw [hin.ins hk1,colsAt_get hlt],hr.2,h3,hh.1.2,h2⟩
theorem form_upd {ts:List Tab} {x:Chg} (h:formE ts x = 0) (hk2:x.kind = 2) {k:Nat} (hin:InForm ts x k) : ∃ c,UpdForm ts x k c hin.lt:=by
 obtain ⟨h1,h2,h3,h4,h5⟩:=formE_parts h
 have hlt:=hin.lt
 obtain ⟨c,hc,hcl⟩:=hin.upd hk2
 rw [colsAt_get hlt] at hcl
 unfold invalidB at h1
 rw [Bool.or_eq_false_iff] at h1
 obtain ⟨hh,hb⟩:=h1
 have e1:(x.kind == 1)=false:=by rw [hk2];rfl
 have e2:(x.kind == 2)=true:=by rw [hk2];rfl
 rw [e1,if_neg (by decide),e2,if_pos rfl] at hb
 unfold badUpd at hb
 simp only [Bool.or_eq_false_iff,Bool.not_eq_false'] at hb
 unfold badTyp at h4
 rw [e2,Bool.true_and,Bool.or_eq_false_iff,hin.tab,colsAt_get hlt,hc,tyAt_get hcl] at h4
 rw [e2,Bool.true_and,hin.tab,colsAt_get hlt,hc] at h5
 have h6 : ¬ FixedCol ts[k].cols (c:Int):=fun hf=>by rw [pb_true hf] at h5;cases h5
 refine ⟨c,hc,hcl,?_,hb.2,by simpa using h4.2⟩
 rcases Nat.eq_zero_or_pos c with rfl|h0
 ·exact absurd (.inl rfl) h6
 ·exact h0
theorem new_ok {ts:List Tab} {x:Chg} {k:Nat} (hin:InForm ts x k) (hlt:k<ts.length) (hk1:x.kind = 1) (hi:InsForm ts x k hlt):RcdOk ts[k].cols (newP x).1 (newP x).2.1 (newP x).2.2:=by
 refine ⟨hi.len,by simpa [newP] using hi.len,hi.day,fun i hic=>⟨fun h=>hi.vals _ (lgm h),fun h hc=>hi.typ i h hc,fun h => ?_,fun h h0 => ?_⟩,fun h => ?_⟩
 ·simp only [newP,List.getElem_replicate];exact hin.seq
 ·simp only [newP,List.getElem_replicate];exact Int.le_refl _
 ·have hk:=hi.key
  unfold keyOf at hk
  rw [if_pos (by simpa using hk1)] at hk
  have h0 : 0<x.row.length:=h
  have e : ∀ (l:List Val) (h : 0<l.length),l.headD ⟨0,0,⟨#[]⟩⟩=l[0]:=fun l h=>by
   cases l with
   | nil=>simp at h
   | cons a t=>rfl
  rw [e _ h0] at hk
  exact hk
theorem key_ins {x:Chg} (hk:x.kind = 1):keyOf x=headP (newP x):=by
 unfold keyOf headP newP
 rw [if_pos (by simpa using hk)]
theorem check_keeps {ts:List Tab} {rt:List RTab} {x:Chg} (h:checkE ts rt x = 0):POk ts (performE (rt.map pureT) x):=by
 unfold checkE at h
 split at h
 ·omega
 rename_i h1
 split at h
 ·rename_i h2;rw [h] at h2;simp at h2
 rename_i h2
 split at h
 ·omega
 rename_i h3
 have hok:RTabsOk ts rt:=pb_iff.1 (by simpa using h1)
 have hf:formE ts x = 0:=by simpa using h2
 have hlast:lastOfT rt<x.seq:=by simpa using h3
 have hp:=hok.pure
 obtain ⟨k,hin⟩:=formE_in hf
 have hlt:=hin.lt
 have hrl:=hok.len
 have hk:k<rt.length:=by omega
 have hkp:k<(rt.map pureT).length:=by simpa using hk
 have htab:=hp.tab k hkp hlt
 have hsq : ∀ r∈(rt.map pureT)[k],∀ s∈r.2.1,s<x.seq:=by
  intro r hr s hs
  rw [List.getElem_map] at hr
  obtain ⟨y,hy,rfl⟩:=List.mem_map.1 hr
  have:=le_last (lgm hk) hy hs
  omega
 have hfp:findK (recsAt rt (k:Int)) (keyOf x)=findP (rt.map pureT)[k] (keyOf x):=by rw [recsAt_get hk,findK_pure,List.getElem_map];rfl
 have hln:(recsAt rt (k:Int)).length=(rt.map pureT)[k].length:=by rw [recsAt_get hk,List.getElem_map];simp [pureT]
 have hpos : 0<ts[k].cols.length:=(hok.cat.cols hlt).1
 have key:PTabOk ts[k].cols (perfL (rt.map pureT)[k] x):=by
  unfold stateE at h
  rw [hin.tab,hfp,hln] at h
  rcases hin.kind with hk1|hk2|hk3
  ·have hi:=form_ins hf hk1 hin
   have e1:(x.kind == 1)=true:=by simpa using hk1
   rw [e1] at h
   simp only [Bool.true_and] at h
   split at h
   ·omega
   rename_i h4
   split at h
   ·omega
   split at h
   ·omega
   split at h
   ·omega
   split at h
   ·omega
   rename_i h5
   have h4:findP (rt.map pureT)[k] (keyOf x) < 0:=by simpa using h4
   have h5 : ¬ 64≤(rt.map pureT)[k].length:=by simpa using h5
   rw [perfL_new hk1 h4 h5]
   have hvk:valB (keyOf x)=true:=by
    rw [key_ins hk1,headP_new (by rw [hi.len];exact hpos)]
    exact hi.vals _ (lgm _)
   refine htab.ins omA (new_ok hin hlt hk1 hi) (fun y hy he => ?_) (fun y hy he => ?_)
   ·have hy1:=htab.rcd y hy
    have hyl : 0<y.1.length:=by rw [hy1.len];exact hpos
    have hyv:valB (headP y)=true:=by
     have e:headP y=y.1[0]:=by
      obtain ⟨a,b⟩:=y
      cases a with
      | nil=>simp at hyl
      | cons u us=>rfl
     rw [e]
     exact (hy1.cell 0 hpos).val hyl
    rw [← key_ins hk1] at he
    have hee:=cmpVal_eq hyv hvk he
    unfold findP at h4
    rw [if_pos (by rw [hvk];simpa using hi.key)] at h4
    have h6:=firstAt_neg h4 y hy
    rw [decide_eq_false_iff_not] at h6
    refine h6 ?_
    rw [← hee]
    obtain ⟨a,b⟩:=y
    cases a with
    | nil=>simp at hyl
    | cons u us=>rfl
   ·have hy1:=htab.rcd y hy
    have hyl : 0<y.2.1.length:=by rw [hy1.slen];exact hpos
    have h6:=hsq y hy y.2.1[0] (lgm hyl)
    have e:headQ y=y.2.1[0]:=by
     obtain ⟨a,b,c⟩:=y
     cases b with
     | nil=>simp at hyl
     | cons u us=>rfl
    have e2:headQ (newP x)=x.seq:=by
     have h0 : 0<x.row.length:=by rw [hi.len];exact hpos
     unfold headQ newP
     simp only
     rw [show x.row.length=(x.row.length - 1) + 1 by omega]
     rfl
    rw [e,e2] at he
    omega
  ·obtain ⟨c,hu⟩:=form_upd hf hk2 hin
   by_cases hz:findP (rt.map pureT)[k] (keyOf x) < 0
   ·rw [perfL_none omA hz];exact htab
   ·obtain ⟨j,hj,he⟩:=findP_at (Int.not_lt.1 hz)
    rw [perfL_upd hk2 he]
    exact htab.upd j hu.col hu.pos hu.lt hu.val hu.typ hin.seq fun r hr s hs=>Int.le_of_lt (hsq r hr s hs)
  ·by_cases hz:findP (rt.map pureT)[k] (keyOf x) < 0
   ·rw [perfL_none omA hz];exact htab
   ·obtain ⟨j,hj,he⟩:=findP_at (Int.not_lt.1 hz)
    rw [perfL_del omA omA he]
    exact htab.cut j
 have hpe:performE (rt.map pureT) x=(rt.map pureT).set k (perfL (rt.map pureT)[k] x):=by
  unfold performE
  rw [hin.tab,Int.toNat_natCast,tabP_get hkp]
 rw [hpe]
 refine ⟨by simpa using hp.len,fun i hi hi' => ?_⟩
 rw [List.getElem_set]
 split
 ·rename_i e
  subst e
  exact key
 ·exact hp.tab i (by simpa using hi) hi'
theorem form_key {ts:List Tab} {x:Chg} (h:formE ts x = 0) (hok:CatOk ts):valB (keyOf x)=true∧(keyOf x).kind ≠ 0:=by
 obtain ⟨h1,h2,_,_,_⟩:=formE_parts h
 refine ⟨?_,h2⟩
 obtain ⟨k,hin⟩:=formE_in h
 rcases hin.kind with hk1|hk2|hk3
 ·have hi:=form_ins h hk1 hin
  rw [key_ins hk1,headP_new (by rw [hi.len];exact (hok.cols hin.lt).1)]
  exact hi.vals _ (lgm _)
 ·unfold invalidB at h1
  rw [Bool.or_eq_false_iff] at h1
  have hb:=h1.2
  have e1:(x.kind == 1)=false:=by rw [hk2];rfl
  have e2:(x.kind == 2)=true:=by rw [hk2];rfl
  rw [e1,if_neg (by decide),e2,if_pos rfl] at hb
  unfold badUpd at hb
  simp only [Bool.or_eq_false_iff,Bool.not_eq_false'] at hb
  unfold keyOf
  rw [if_neg (by rw [e1];decide)]
  exact hb.1.1.2
 ·unfold invalidB at h1
  rw [Bool.or_eq_false_iff] at h1
  have hb:=h1.2
  have e1:(x.kind == 1)=false:=by rw [hk3];rfl
  have e2:(x.kind == 2)=false:=by rw [hk3];rfl
  rw [e1,if_neg (by decide),e2,if_neg (by decide)] at hb
  unfold badDel at hb
  simp only [Bool.or_eq_false_iff,Bool.not_eq_false'] at hb
  unfold keyOf
  rw [if_neg (by rw [e1];decide)]
  exact hb.2
def numsBad (m:Nat) (x:Chg):Bool:=decide (x.seq < 1)||(decide (1073741824<x.seq)||(decide (x.day < 0)||(decide (1048576<x.day)||(decide (x.table < 0)||decide ((m:Int)≤x.table)))))
noncomputable def insErr (cols:List Col) (x:Chg):Int:=if badIns cols.length x=true then 1 else if ((keyOf x).kind == 0)=true then 6 else if pb (RowTyped cols x.row)=false then 5 else 0
noncomputable def updErr (cols:List Col) (x:Chg):Int:=if badUpd cols.length x=true then 1 else if (x.key.kind == 0)=true then 6 else if (!typedB x.val (tyAt cols x.column)||x.key.kind != tyAt cols 0)=true then 5 else if pb (FixedCol cols x.column)=true then 11 else 0
def delErr (cols:List Col) (x:Chg):Int:=if badDel x=true then 1 else if (x.key.kind == 0)=true then 6 else if (x.key.kind != tyAt cols 0)=true then 5 else 0
theorem badHead_nums {m:Nat} {x:Chg}:badHead m x=(!withinB x.kind 1 3||numsBad m x):=by
 unfold badHead numsBad withinB
 by_cases h1 : 1≤x.kind <;> by_cases h2:x.kind ≤ 3 <;> by_cases h3 : 1≤x.seq <;> by_cases h4:x.seq ≤ 1073741824 <;> by_cases h5 : 0≤x.day <;> by_cases h6:x.day ≤ 1048576 <;> by_cases h7 : 0≤x.table <;> by_cases h8:x.table≤(m:Int) - 1 <;> simp [h1,h2,h3,h4,h5,h6,h7,h8] <;> omega
theorem form_nums {ts:List Tab} {x:Chg} (h:numsBad ts.length x=true):formE ts x = 1:=by
 unfold formE
 rw [if_pos]
 unfold invalidB
 rw [badHead_nums,h]
 simp
theorem form_kind {ts:List Tab} {x:Chg} (h1:x.kind ≠ 1) (h2:x.kind ≠ 2) (h3:x.kind ≠ 3):formE ts x = 1:=by
 unfold formE
 rw [if_pos]
 unfold invalidB
 rw [badHead_nums]
 have:withinB x.kind 1 3=false:=by
  unfold withinB
  by_cases h4 : 1≤x.kind <;> by_cases h5:x.kind ≤ 3 <;> simp [h4,h5]
  omega
 rw [this]
 simp
section
variable {ts:List Tab} {x:Chg} {k:Nat}
theorem head_ok (h:numsBad ts.length x=false) (hk:x.kind = 1∨x.kind = 2∨x.kind = 3):badHead ts.length x=false:=by
 rw [badHead_nums,h]
 have:withinB x.kind 1 3=true:=by rcases hk with h|h|h <;> rw [h] <;> decide
 rw [this]
 rfl
theorem form_is_ins (h:numsBad ts.length x=false) (hk:x.kind = 1) (ht:x.table=(k:Int)) (hkt:k<ts.length) (h0 : 0<ts[k].cols.length):formE ts x=insErr ts[k].cols x:=by
 have hh:=head_ok h (.inl hk)
 have e1:(x.kind == 1)=true:=by rw [hk];rfl
 have e2:(x.kind == 2)=false:=by rw [hk];rfl
 have hinv:invalidB ts x=badIns ts[k].cols.length x:=by
  unfold invalidB
  rw [hh,e1,ht,colsAt_get hkt]
  rfl
 unfold formE insErr badTyp
 rw [hinv,e2,ht,colsAt_get hkt]
 simp only [Bool.false_and,Bool.or_false,Bool.false_eq_true,if_false]
 split
 ·rfl
 rename_i hb
 split
 ·rfl
 split
 ·rfl
 rename_i hr
 have hr:RowTyped ts[k].cols x.row:=pb_iff.1 (by simpa using hr)
 have hlen:x.row.length=ts[k].cols.length:=by
  unfold badIns at hb
  simp only [Bool.not_eq_true,Bool.or_eq_false_iff] at hb
  have:=hb.1.2
  have:((x.row.length:Int)=(ts[k].cols.length:Int)):=by simpa using this
  omega
 have hl0 : 0<x.row.length:=by omega
 have hkey:keyOf x=x.row[0]:=by rw [key_ins hk,headP_new hl0]
 have hty:=hr 0 hl0 h0
 rw [if_neg]
 rw [hkey,show (0:Int)=((0:Nat):Int) from rfl,tyAt_get h0,hty]
 decide
theorem typed_key {v:Val} {t:Int} (h:(v.kind == 0)=false):(!typedB v t)=(v.kind != t):=by
 unfold typedB
 rw [h]
 simp [bne]
theorem form_is_upd (h:numsBad ts.length x=false) (hk:x.kind = 2) (ht:x.table=(k:Int)) (hkt:k<ts.length):formE ts x=updErr ts[k].cols x:=by
 have hh:=head_ok h (.inr (.inl hk))
 have e1:(x.kind == 1)=false:=by rw [hk];rfl
 have e2:(x.kind == 2)=true:=by rw [hk];rfl
 have ek:keyOf x=x.key:=by unfold keyOf;rw [e1,if_neg (by decide)]
 have hinv:invalidB ts x=badUpd ts[k].cols.length x:=by
  unfold invalidB
  rw [hh,e1,e2,ht,colsAt_get hkt]
  rfl
 unfold formE updErr badTyp
 rw [hinv,e2,ht,colsAt_get hkt,ek]
 simp only [Bool.true_and]
 split
 ·rfl
 rename_i hb
 split
 ·rfl
 rename_i hz
 have hz:(x.key.kind == 0)=false:=by simpa using hz
 have hrow:x.row = []:=by
  unfold badUpd at hb
  simp only [Bool.not_eq_true,Bool.or_eq_false_iff] at hb
  have:=hb.1.1.1
  have : ¬ 0<x.row.length:=by simpa using this
  exact List.eq_nil_of_length_eq_zero omA
 have hr:pb (RowTyped ts[k].cols x.row)=true:=pb_true fun i h _=>by rw [hrow] at h;simp at h
 rw [hr,typed_key hz,Bool.or_comm]
 simp
theorem form_is_del (h:numsBad ts.length x=false) (hk:x.kind = 3) (ht:x.table=(k:Int)) (hkt:k<ts.length):formE ts x=delErr ts[k].cols x:=by
 have hh:=head_ok h (.inr (.inr hk))
 have e1:(x.kind == 1)=false:=by rw [hk];rfl
 have e2:(x.kind == 2)=false:=by rw [hk];rfl
 have ek:keyOf x=x.key:=by unfold keyOf;rw [e1,if_neg (by decide)]
 have hinv:invalidB ts x=badDel x:=by
  unfold invalidB
  rw [hh,e1,e2,ht]
  rfl
 unfold formE delErr badTyp
 rw [hinv,e2,ht,colsAt_get hkt,ek]
 simp only [Bool.false_and,Bool.or_false]
 split
 ·rfl
 rename_i hb
 split
 ·rfl
 rename_i hz
 have hz:(x.key.kind == 0)=false:=by simpa using hz
 have hrow:x.row = []:=by
  unfold badDel at hb
  simp only [Bool.not_eq_true,Bool.or_eq_false_iff] at hb
  have:=hb.1.1.1
  have : ¬ 0<x.row.length:=by simpa using this
  exact List.eq_nil_of_length_eq_zero omA
 have hr:pb (RowTyped ts[k].cols x.row)=true:=pb_true fun i h _=>by rw [hrow] at h;simp at h
 rw [hr,typed_key hz]
 simp
end
end Go.Proofs.YtjhnpnhpmdkpcaaGreat
