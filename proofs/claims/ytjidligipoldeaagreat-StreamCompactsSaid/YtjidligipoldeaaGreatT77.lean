/-
  Contracts and plain laws of this seat, part 77.
-/
import Derived.Test.YtjidligipoldeaaGreatT76
set_option linter.unusedVariables false
set_option linter.unusedSimpArgs false
set_option maxRecDepth 100000
set_option maxHeartbeats 16000000
namespace Go.Proofs.YtjidligipoldeaaGreat
open Go.RowKit Go
theorem Cw(t:List aG)(a b:List Chg):dL t (a++b)=dL (dL t a) b:=by unfold dL;rw[List.foldl_append]
def WrR(l:List Chg)(r:aG):Prop:= ∀m,m<r.2.1.length→∃x∈l,x.seq=r.2.1.getD m 0∧keyOf x=ay r∧((x.kind=1∧x.row.getD m dS=r.1.getD m dS)∨(x.kind=2∧x.column.toNat=m∧x.val=r.1.getD m dS))
theorem WrR.more{l l':List Chg}{r:aG}(h:WrR l r)(hs:∀x∈l,x∈l'):WrR l' r:=fun m hm=>by
 obtain⟨x,hx,h1⟩:=h m hm
 exact⟨x,hs x hx,h1⟩
theorem M4{l:List Val}{c m:Nat}(q d:Val)(hc:c<l.length):(l.set c q).getD m d=if m=c then q else l.getD m d:=by
 rw[List.getD_eq_getElem?_getD,List.getD_eq_getElem?_getD,List.getElem?_set]
 by_cases e:c=m
 ·subst e
  rw[if_pos rfl,if_pos rfl,if_pos hc]
  rfl
 ·rw[if_neg e,if_neg (fun h=>e h.symm)]
theorem NP{ts:List Tab}{k:Nat}{t:List aG}{x:Chg}{l:List Chg}(hok:aN ts)(hk:k<ts.length)(h:Good ts[k].ae t x.seq)(hf:aV ts x=0)(ht:x.table=(k:Int))(hw:∀r∈t,WrR l r):∀r∈aW t x,WrR (l ++ [x]) r:=fun r hr=>by
 have hx:=ou hok hf
 have hK:aT t:=h.ok.keys (hok.ae hk).1
 have old:r∈t→WrR (l ++ [x]) r:=fun h=>(hw r h).more fun y hy=>List.mem_append_left _ hy
 rcases hx.kind with h1|h2|h3
 ·by_cases hfit:(∃r∈t,ay r=keyOf x)∨t.length<64
  ·rcases(kP hK hx.val hx.key h1 hfit).1 hr with rfl|⟨h4,_⟩
   ·intro m hm
    have hm':m<x.row.length:=by simpa[dX]using hm
    refine⟨x,by simp,?_,?_,.inl ⟨h1,rfl⟩⟩
    ·show x.seq=(List.replicate x.row.length x.seq).getD m 0
     rw[l9 (by simpa using hm')]
     simp
    ·unfold keyOf ay dX
     rw[if_pos (by simpa using h1)]
   ·exact old h4
  ·rw[uZ hK hx.val (fun r hr e=>hfit (.inl ⟨r,hr,e⟩)) (.inr fun h=>hfit (.inr h))]at hr
   exact old hr
 ·rcases(kN hK hx.val hx.key h2).1 hr with ⟨h4,_⟩|⟨r0,h4,h5,rfl⟩
  ·exact old h4
  ·obtain⟨k',hin⟩:=fF hf
   have e:k'=k:=by have:=hin.tab;omega
   subst e
   obtain⟨j,hj,hlt⟩:=hin.upd h2
   have lg:bW ts (k':Int)=ts[k'].ae:=by
    unfold bW
    simp[hk]
   have hr0:=h.ok.rcd r0 h4
   have hc:x.column.toNat<r0.2.1.length:=by
    rw[hr0.oO,←lg]
    omega
   have hc':x.column.toNat<r0.1.length:=by
    rw[hr0.len,←lg]
    omega
   intro m hm
   have hm':m<r0.2.1.length:=by simpa[ku]using hm
   rw[vD (hx.col h2)]
   show ∃y∈l ++ [x],y.seq=(r0.2.1.set x.column.toNat x.seq).getD m 0∧keyOf y=ay r0∧((y.kind=1∧y.row.getD m dS=(r0.1.set x.column.toNat x.val).getD m dS)∨(y.kind=2∧y.column.toNat=m∧y.val=(r0.1.set x.column.toNat x.val).getD m dS))
   rw[uI _ _ hc,M4 _ _ hc']
   by_cases e:m=x.column.toNat
   ·rw[if_pos e,if_pos e]
    exact⟨x,by simp,rfl,h5.symm,.inr ⟨h2,e.symm,rfl⟩⟩
   ·rw[if_neg e,if_neg e]
    exact(hw r0 h4).more (fun y hy=>List.mem_append_left _ hy) m hm'
 ·exact old ((nX hK hx.val hx.key h3).1 hr).1
theorem J2{ts:List Tab}{k:Nat}(hok:aN ts)(hk:k<ts.length):∀(l:List Chg) (t:List aG) (q:Int) (p:List Chg),Good ts[k].ae t q→eX ts k q l→(∀r∈t,WrR p r)→∀r∈dL t l,WrR (p++l) r
 | [],t,q,p,hg,ha,hw=>by simpa[dL]using hw
 | x::l,t,q,p,hg,ha,hw=>by
   have hf:=ha.form x spA
   have hgx:=hg.mono (ha.low x spA)
   have htab:=ha.tab x spA
   have h1:=J2 hok hk l (aW t x) (x.seq+1) (p ++ [x]) (hgx.step hok hk hf htab) ha.tail (NP hok hk hgx hf htab hw)
   rw[List.append_assoc]at h1
   exact h1
theorem Qo{ts:List Tab}{k:Nat}(hok:aN ts)(hk:k<ts.length){l:List Chg}{q:Int}(ha:eX ts k q l):∀r∈dL [] l,WrR l r:=by
 have h:=J2 hok hk l [] q [] (Good.nil _ _) ha (fun r hr=>by cases hr)
 simpa using h
theorem asc_one{ts:List Tab}{k:Nat}{q:Int}{l:List Chg}(ha:eX ts k q l){a b:Chg}(h1:a∈l)(h2:b∈l)(h:a.seq=b.seq):a=b:=by
 obtain⟨i,hi,rfl⟩:=List.getElem_of_mem h1
 obtain⟨j,hj,rfl⟩:=List.getElem_of_mem h2
 rcases Nat.lt_trichotomy i j with e|e|e
 ·have:=List.pairwise_iff_getElem.1 ha.asc i j hi hj e;omega
 ·subst e;rfl
 ·have:=List.pairwise_iff_getElem.1 ha.asc j i hj hi e;omega
structure Cut (T:List aG) (x y:Chg) (r:aG):Prop where
 mem:r∈T
 key:ay r=keyOf y
 seq:y.seq=x.seq
 kind:y.kind=x.kind
 num:y.seq∈r.2.1
 upd:y.kind=2→y.column.toNat<r.1.length∧r.1.getD y.column.toNat dS=y.val
 ins:y.kind=1→y.row.length=r.1.length
 row:y.kind≠1→y.row=[]
 cell:∀j,j<y.row.length→y.row.getD j dS=r.1.getD j dS∨y.row.getD j dS=dS
theorem uH{l:List Val}{m:Nat}(h:m<l.length)(d:Val):l.getD m d=l[m]:=by rw[List.getD_eq_getElem?_getD,List.getElem?_eq_getElem h];rfl
theorem Sj{ts:List Tab}{k:Nat}(hok:aN ts)(hk:k<ts.length){l:List Chg}{q:Int}(ha:eX ts k q l){x y:Chg}(hx:x∈l)(hy:y∈bS (dL [] l) x):∃r,Cut (dL [] l) x y r:=by
 have hf:=ha.form x hx
 have hfk:=ou hok hf
 obtain⟨k',hin⟩:=fF hf
 have htab:=ha.tab x hx
 have e:k'=k:=by have:=hin.tab;omega
 subst e
 obtain⟨⟨q',hT⟩,_⟩:=j5 hok hk l [] q (Good.nil _ _) ha
 have hW:=Qo hok hk ha
 have lg:bW ts (k':Int)=ts[k'].ae:=by
  unfold bW
  simp[hk]
 have hpos:=(hok.ae hk).1
 unfold bS at hy
 split at hy
 ·rename_i h1
  split at hy
  ·rename_i r hr
   obtain⟨h2,h3⟩:=gU hr
   have hrc:=hT.ok.rcd r h2
   have hl:0<r.2.1.length:=by rw[hrc.oO];exact hpos
   have hq0:r.2.1.getD 0 0=bH r:=by
    unfold bH
    cases r.2.1<;>rfl
   have hyy:=List.mem_singleton.1 hy
   have hrow:x.row.length=r.1.length:=by rw[hin.ins h1,lg,hrc.len]
   have hsame:∀m,m<r.2.1.length→r.2.1.getD m 0=x.seq→keyOf x=ay r∧x.row.getD m dS=r.1.getD m dS:=fun m hm he=>by
    obtain⟨x',hx',g1,g2,g3⟩:=hW r h2 m hm
    have e:=asc_one ha hx' hx omA
    subst e
    rcases g3 with g3|g3
    ·exact⟨g2,g3.2⟩
    ·omega
   obtain⟨g1,g2⟩:=hsame 0 hl (by rw[hq0];exact h3)
   have hyl:y.row.length=r.1.length:=by rw[hyy];simp[hrow]
   refine⟨r,h2,?_,by rw[hyy],by rw[hyy],?_,(fun h=>by rw[hyy]at h;simp only at h;omega),(fun _=>hyl),(fun h=>absurd (by rw[hyy];exact h1) h),fun j hj =>?_⟩
   ·rw[←g1,hyy]
    unfold keyOf
    have h1':(x.kind == 1)=true:=by simpa using h1
    simp only[h1',if_true]
    cases hxr:x.row with
    | nil=>rfl
    | cons u us =>
      simp only[List.mapIdx_cons,List.headD_cons]
      rw[if_pos (by rw[hq0];exact h3)]
   ·have:y.seq=bH r:=by rw[hyy];exact h3.symm
    rw[this,←hq0,l9 hl]
    exact lgm hl
   ·have hj':j<x.row.length:=by omega
    rw[uH hj]
    have e:y.row[j]=if r.2.1.getD j 0=x.seq then x.row[j] else dS:=by
     subst hyy
     simp only[List.getElem_mapIdx]
    rw[e]
    split
    ·rename_i he
     left
     rw[←(hsame j (by rw[hrc.oO,←hrc.len];omega) he).2,uH hj']
    ·exact .inr rfl
  ·simp at hy
 ·rename_i h1
  split at hy
  ·rename_i h2
   split at hy
   ·rename_i r hr
    split at hy
    ·rename_i hs
     have h3:r∈dL [] l:=List.mem_of_find?_eq_some hr
     have h4:ay r=x.key:=by simpa using List.find?_some hr
     have hyy:=List.mem_singleton.1 hy
     have hrc:=hT.ok.rcd r h3
     obtain⟨j,hj,hlt⟩:=hin.upd h2
     have hc:x.column.toNat<r.2.1.length:=by rw[hrc.oO,←lg];omega
     have hc':x.column.toNat<r.1.length:=by rw[hrc.len,←lg];omega
     obtain⟨x',hx',g1,g2,g3⟩:=hW r h3 _ hc
     have e:=asc_one ha hx' hx omA
     subst e
     have hv:x'.val=r.1.getD x'.column.toNat dS:=by
      rcases g3 with g3|g3
      ·omega
      ·exact g3.2.2
     have hrow:x'.row=[]:=List.length_eq_zero_iff.1 (hin.rest h1)
     subst hyy
     refine⟨r,h3,?_,rfl,rfl,?_,fun _=>⟨hc',hv.symm⟩,(fun h=>absurd h h1),(fun _=>hrow),fun j hj =>?_⟩
     ·rw[h4]
      unfold keyOf unC
      have h1':(x'.kind == 1)=false:=by simpa using h1
      simp only[h1',Bool.false_eq_true,if_false]
     ·show x'.seq∈r.2.1
      rw[←hs,l9 hc]
      exact lgm hc
     ·have:(unC x').row=[]:=hrow
      rw[this]at hj
      simp at hj
    ·simp at hy
   ·simp at hy
  ·simp at hy
theorem qH{ts:List Tab}{T:List aG}{x y:Chg}(hf:aV ts x=0)(hy:y∈bS T x):Kept ts x y:=by
 unfold bS at hy
 split at hy
 ·rename_i h1
  split at hy
  ·rename_i r hr
   obtain⟨h2,h3⟩:=gU hr
   have hq0:r.2.1.getD 0 0=x.seq:=by
    rw[←h3]
    unfold bH
    cases r.2.1<;>rfl
   have h5:=DC (x:=x) hf h1 (fun m=>decide (r.2.1.getD m 0=x.seq)) (decide_eq_true hq0)
   simp only[decide_eq_true_eq]at h5
   rw[List.mem_singleton.1 hy]
   exact⟨h5,rfl,rfl,rfl⟩
  ·simp at hy
 ·split at hy
  ·split at hy
   ·split at hy
    ·rw[List.mem_singleton.1 hy]
     exact⟨j6 hf,rfl,rfl,rfl⟩
    ·simp at hy
   ·simp at hy
  ·simp at hy
theorem yX(T:List aG)(x:Chg):bS T x=[] ∨ ∃y,bS T x=[y]:=by
 unfold bS
 split
 ·split
  ·exact .inr ⟨_,rfl⟩
  ·exact .inl rfl
 ·split
  ·split
   ·split
    ·exact .inr ⟨_,rfl⟩
    ·exact .inl rfl
   ·exact .inl rfl
  ·exact .inl rfl
theorem GY{ts:List Tab}{k:Nat}(hok:aN ts)(hk:k<ts.length){l:List Chg}{q:Int}(ha:eX ts k q l){y:Chg}(hy:y∈l.flatMap (bS (dL [] l))):∃x∈l,∃r,Cut (dL [] l) x y r:=by
 obtain⟨x,hx,h⟩:=List.mem_flatMap.1 hy
 exact⟨x,hx,Sj hok hk ha hx h⟩
theorem BU{ts:List Tab}{k:Nat}(T:List aG):∀ {l:List Chg}{q:Int},eX ts k q l→eX ts k q (l.flatMap (bS T))
 | [],q,ha=>⟨(fun x h=>by cases h),(fun x h=>by cases h),(fun x h=>by cases h),List.Pairwise.nil⟩
 | x::l,q,ha=>by
   have ih:=BU T ha.tail
   have hlow:=ha.low x spA
   have ih':eX ts k q (l.flatMap (bS T)):=⟨ih.form,ih.tab,fun y hy=>by have:=ih.low y hy;omega,ih.asc⟩
   rcases yX T x with h|⟨y,h⟩
   ·rw[List.flatMap_cons,h]
    exact ih'
   ·have hk:=qH (T:=T) (y:=y) (ha.form x spA) (by rw[h];simp)
    rw[List.flatMap_cons,h]
    have hs:=hk.seq
    refine⟨fun z hz =>?_,fun z hz =>?_,fun z hz =>?_,List.pairwise_cons.2 ⟨fun z hz =>?_,ih.asc⟩⟩
    ·rcases List.mem_cons.1 hz with rfl|hz
     ·exact hk.form
     ·exact ih.form z hz
    ·rcases List.mem_cons.1 hz with rfl|hz
     ·rw[hk.tab];exact ha.tab x spA
     ·exact ih.tab z hz
    ·rcases List.mem_cons.1 hz with rfl|hz
     ·omega
     ·exact ih'.low z hz
    ·have:=ih.low z hz
     omega
theorem Pw{ts:List Tab}{k:Nat}{q:Int}{a b a':List Chg}(h:eX ts k q (a++b))(h':eX ts k q a')(hs:∀y∈a',∃x∈a,y.seq=x.seq):eX ts k q (a'++b):=by
 refine⟨fun z hz =>?_,fun z hz =>?_,fun z hz =>?_,List.pairwise_append.2 ⟨h'.asc,(List.pairwise_append.1 h.asc).2.1,fun y hy z hz =>?_⟩⟩
 ·rcases List.mem_append.1 hz with hz|hz
  ·exact h'.form z hz
  ·exact h.form z (List.mem_append_right _ hz)
 ·rcases List.mem_append.1 hz with hz|hz
  ·exact h'.tab z hz
  ·exact h.tab z (List.mem_append_right _ hz)
 ·rcases List.mem_append.1 hz with hz|hz
  ·exact h'.low z hz
  ·exact h.low z (List.mem_append_right _ hz)
 ·obtain⟨x,hx,e⟩:=hs y hy
  have:=(List.pairwise_append.1 h.asc).2.2 x hx z hz
  omega
theorem yZ{ts:List Tab}{k:Nat}{q:Int}{a b:List Chg}(h:eX ts k q (a++b)):eX ts k q a:=⟨fun x hx=>h.form x (List.mem_append_left _ hx),fun x hx=>h.tab x (List.mem_append_left _ hx),fun x hx=>h.low x (List.mem_append_left _ hx),(List.pairwise_append.1 h.asc).1⟩
theorem Na{ts:List Tab}{k:Nat}(hok:aN ts)(hk:k<ts.length){a b:List Chg}{q:Int}(ha:eX ts k q (a++b)):eX ts k q (a.flatMap (bS (dL [] a))++b)∧dL [] (a.flatMap (bS (dL [] a))++b)=dL [] (a++b):=by
 have hl:=yZ ha
 refine⟨Pw ha (BU _ hl) fun y hy =>?_,?_⟩
 ·obtain⟨x,hx,h⟩:=List.mem_flatMap.1 hy
  exact⟨x,hx,(qH (hl.form x hx) h).seq⟩
 ·rw[Cw,Cw,Nc hok hk hl]
theorem Ae{α:Type}[BEq α][LawfulBEq α]:∀(l l':List α),l.Nodup→(∀a∈l,a∈l')→l.length≤l'.length
 | [],_,_,_=>Nat.zero_le _
 | a::l,l',hn,hs=>by
   have h1:=List.nodup_cons.1 hn
   have h2:a∈l':=hs a spA
   have h3:=Ae l (l'.erase a) h1.2 fun b hb=>by
    refine(List.mem_erase_of_ne ?_).2 (hs b (by simp[hb]))
    rintro rfl
    exact h1.1 hb
   rw[List.length_erase_of_mem h2]at h3
   have:=List.length_pos_of_mem h2
   simp only[List.length_cons]
   omega
theorem NV{T:List aG}{n:Nat}(h:∀r∈T,r.2.1.length=n):(T.flatMap fun r=>r.2.1).length=T.length*n:=by
 induction T with
 | nil=>simp
 | cons r T ih =>
   rw[List.flatMap_cons,List.length_append,ih (fun r hr=>h r (by simp[hr])),h r spA,List.length_cons,Nat.add_mul]
   omega
theorem FO{ts:List Tab}{k:Nat}(hok:aN ts)(hk:k<ts.length){l:List Chg}{q:Int}(ha:eX ts k q l):(l.flatMap (bS (dL [] l))).length≤(dL [] l).length*ts[k].ae.length:=by
 obtain⟨⟨q',hT⟩,_⟩:=j5 hok hk l [] q (Good.nil _ _) ha
 have hc:=BU (dL [] l) ha
 rw[←NV (T:=dL [] l) (fun r hr=>(hT.ok.rcd r hr).oO),←List.length_map (f:=Chg.seq)]
 refine Ae _ _ ?_ fun s hs =>?_
 ·rw[List.Nodup,List.pairwise_map]
  exact hc.asc.imp fun h=>by omega
 ·obtain⟨y,hy,rfl⟩:=List.mem_map.1 hs
  obtain⟨x,hx,r,h⟩:=GY hok hk ha hy
  exact List.mem_flatMap.2 ⟨r,h.mem,h.num⟩
open Go.RowKit Go
theorem iP{ts:List Tab}{l:List Chg}(h:bK ts l):∀x∈l,aV ts x=0:=fun x hx=>by
 obtain⟨i,hi,rfl⟩:=List.getElem_of_mem hx
 exact(h.at_ i hi).form
theorem lT{ts:List Tab}{k:Nat}{l:List Chg}(h:bK ts l)(ht:∀x∈l,x.table=(k:Int)):eX ts k 0 l:=
 ⟨iP h,ht,fun x hx=>by have:=(ou h.cat (iP h x hx)).seq;omega,(pR h).imp fun h=>h.1⟩
theorem Cv{ts:List Tab}{k:Nat}:∀(l:List Chg) (pl:List (List aG)) (hk:k<pl.length),(∀x∈l,aV ts x=0)→(∀x∈l,x.table=(k:Int))→xN ts pl l=pl.set k (dL pl[k] l)
 | [],pl,hk,_,_=>by
   show pl=pl.set k pl[k]
   rw[List.set_getElem_self]
 | x::l,pl,hk,hf,ht=>by
   have htx:=ht x spA
   have e:aQ pl x=pl.set k (aW pl[k] x):=by
    unfold aQ
    rw[htx,Int.toNat_natCast,jV hk]
   show xN ts (if aV ts x=0 then aQ pl x else pl) l=_
   rw[if_pos (hf x spA),e,Cv l (pl.set k (aW pl[k] x)) (by simpa using hk) (fun y hy=>hf y (by simp[hy])) (fun y hy=>ht y (by simp[hy]))]
   rw[List.set_set]
   congr 1
   rw[List.getElem_set_self]
   rfl
theorem EE{ts:List Tab}{k:Nat}(hk:k<ts.length){l:List Chg}(hf:∀x∈l,aV ts x=0)(ht:∀x∈l,x.table=(k:Int)):bM ts l=(List.replicate ts.length []).set k (dL [] l):=by
 have h:=Cv (ts:=ts) l (List.replicate ts.length []) (by simpa using hk) hf ht
 rw[List.getElem_replicate]at h
 exact h
theorem KP{ts:List Tab}{k:Nat}(hk:k<ts.length){l:List Chg}(hf:∀x∈l,aV ts x=0)(ht:∀x∈l,x.table=(k:Int)):(bM ts l)[k]?=some (dL [] l):=by
 rw[EE hk hf ht,List.getElem?_set_self (by simpa using hk)]
theorem GD{ts:List Tab}{l l':List Chg}(h:bK ts l)(hs:l'.Sublist l):bK ts l':=
 ib h.cat (Nat.le_trans hs.length_le h.len) (fun x hx=>iP h x (hs.subset hx)) ((pR h).sublist hs)
theorem ES{ts:List Tab}{l:List Chg}(h:bK ts l)(p:Chg→Bool):bK ts (l.filter p):=GD h List.filter_sublist
theorem pQ{ts:List Tab}{l:List Chg}(h:bK ts l)(n:Nat):bK ts (l.take n):=GD h (List.take_sublist n l)
theorem DV{ts:List Tab}(T:List aG):∀ {l:List Chg},(∀x∈l,aV ts x=0)→((l.flatMap (bS T)).map zk).Sublist (l.map zk)
 | [],_=>List.Sublist.refl _
 | x::l,hf=>by
   have ih:=DV T (l:=l) fun y hy=>hf y (by simp[hy])
   rcases yX T x with h|⟨y,h⟩
   ·rw[List.flatMap_cons,h]
    exact ih.cons _
   ·have hk:=qH (ts:=ts) (T:=T) (y:=y) (hf x spA) (by rw[h];simp)
    rw[List.flatMap_cons,h]
    have e:zk y=zk x:=by unfold zk;rw[hk.seq,hk.day]
    show (zk y::(l.flatMap (bS T)).map zk).Sublist _
    rw[e]
    exact ih.cons_cons _
theorem Lc{ts:List Tab}{a b:List Chg}(h:bK ts (a++b))(T:List aG):bK ts (a.flatMap (bS T)++b):=by
 have hf:∀x∈a,aV ts x=0:=fun x hx=>iP h x (List.mem_append_left _ hx)
 have hs:((a.flatMap (bS T)++b).map zk).Sublist ((a++b).map zk):=by
  rw[List.map_append,List.map_append]
  exact(DV T hf).append (List.Sublist.refl _)
 have hlen:=hs.length_le
 rw[List.length_map,List.length_map]at hlen
 refine ib h.cat (Nat.le_trans hlen h.len) (fun y hy =>?_) ?_
 ·rcases List.mem_append.1 hy with hy|hy
  ·obtain⟨x,hx,hy⟩:=List.mem_flatMap.1 hy
   exact(qH (hf x hx) hy).form
  ·exact iP h y (List.mem_append_right _ hy)
 ·have hp:((a++b).map zk).Pairwise (fun a b=>a.1<b.1∧a.2≤b.2):=by
   rw[List.pairwise_map]
   exact pR h
  have hp2:=hp.sublist hs
  rw[List.pairwise_map]at hp2
  exact hp2
theorem Po{T:List aG}{k:Int}{a:List Chg}(ht:∀x∈a,x.table=k):∀y∈a.flatMap (bS T),y.table=k:=fun y hy=>by
 obtain⟨x,hx,hy⟩:=List.mem_flatMap.1 hy
 have h:y.table=x.table:=by
  unfold bS at hy
  split at hy
  ·split at hy
   ·rw[List.mem_singleton.1 hy]
   ·simp at hy
  ·split at hy
   ·split at hy
    ·split at hy
     ·rw[List.mem_singleton.1 hy];rfl
     ·simp at hy
    ·simp at hy
   ·simp at hy
 rw[h,ht x hx]
open Go.RowKit Go
abbrev ja:=Int × Chg
structure Nr (low next:Int) (es:List ja):Prop where
 EU:0≤low
 Im:low≤next
 off:∀e∈es,0≤e.1∧e.1<next
 asc:es.Pairwise (fun a b=>a.1<b.1)
def dG(b:Int)(es:List ja):Nat:=(es.takeWhile fun e=>decide (e.1<b)).length
theorem wY(b:Int)(es:List ja):dG b es≤es.length:=(List.takeWhile_sublist _).length_le
theorem qG{es:List ja}(h:es.Pairwise (fun a b=>a.1<b.1)){b:Int}{i:Nat}(hi:i<es.length):i<dG b es↔es[i].1<b:=by
 induction es generalizing i with
 | nil=>simp at hi
 | cons e es ih =>
   have h1:=List.pairwise_cons.1 h
   unfold dG
   rw[List.takeWhile_cons]
   by_cases he:e.1<b
   ·rw[if_pos (decide_eq_true he)]
    cases i with
    | zero=>simp[he]
    | succ i =>
      have:=ih h1.2 (i:=i) (by simpa using hi)
      simp only[List.length_cons,List.getElem_cons_succ]
      rw[←this]
      unfold dG
      omega
   ·rw[if_neg (by simpa using he)]
    constructor
    ·intro h;simp at h
    ·intro h2
     exfalso
     cases i with
     | zero=>exact he h2
     | succ i =>
       have:=h1.1 _ (List.getElem_mem (n:=i) (by simpa using hi))
       simp only[List.getElem_cons_succ]at h2
       omega
theorem BQ{es:List ja}(h:es.Pairwise (fun a b=>a.1<b.1)){b:Int}{p:Nat}(hp:p≤es.length)(h1:∀i (hi:i<es.length),i<p↔es[i].1<b):dG b es=p:=by
 have h2:=wY b es
 rcases Nat.lt_trichotomy (dG b es) p with h3|h3|h3
 ·have h4:=(h1 (dG b es) omA).1 h3
  have h5:=(qG h (b:=b) (i:=dG b es) omA).2 h4
  omega
 ·exact h3
 ·have h4:=(qG h (b:=b) (i:=p) omA).1 h3
  have h5:=(h1 p omA).2 h4
  omega
def gG(es:List ja)(p:Nat):List aG:=dL [] ((es.take p).map Prod.snd)
theorem sj{ts:List Tab}{k:Nat}(hok:aN ts)(hk:k<ts.length){es:List ja}{q:Int}(ha:eX ts k q (es.map Prod.snd))(p:Nat):∃q',Good ts[k].ae (gG es p) q':=by
 have e:es.map Prod.snd=(es.take p).map Prod.snd++(es.drop p).map Prod.snd:=by rw[←List.map_append,List.take_append_drop]
 rw[e]at ha
 exact(j5 hok hk _ [] q (Good.nil _ _) (yZ ha)).1
open Go.RowKit Go
def ko(T:List aG)(es:List ja):List ja:=es.flatMap fun e=>(bS T e.2).map fun y=>(e.1,y)
theorem vN(T:List aG)(es:List ja):(ko T es).map Prod.snd=(es.map Prod.snd).flatMap (bS T):=by
 induction es with
 | nil=>rfl
 | cons e es ih =>
   show (((bS T e.2).map fun y=>(e.1,y))++ko T es).map Prod.snd=bS T e.2++(es.map Prod.snd).flatMap (bS T)
   rw[List.map_append,ih,List.map_map]
   congr 1
   exact List.map_id' _
theorem nE(T:List aG):∀(es:List ja),((ko T es).map Prod.fst).Sublist (es.map Prod.fst)
 | []=>List.Sublist.refl _
 | e::es=>by
   have ih:=nE T es
   show ((((bS T e.2).map fun y=>(e.1,y))++ko T es).map Prod.fst).Sublist (e.1::es.map Prod.fst)
   rcases yX T e.2 with h|⟨y,h⟩
   ·rw[h]
    exact ih.cons _
   ·rw[h]
    exact ih.cons_cons _
def dR(tO:Int)(es:List ja):List ja:=ko (gG es (dG tO es)) (es.take (dG tO es))++es.drop (dG tO es)
theorem Am(tO:Int)(es:List ja):((dR tO es).map Prod.fst).Sublist (es.map Prod.fst):=by
 unfold dR
 rw[List.map_append]
 have h:=(nE (gG es (dG tO es)) (es.take (dG tO es))).append (List.Sublist.refl ((es.drop (dG tO es)).map Prod.fst))
 have e:es.map Prod.fst=(es.take (dG tO es)).map Prod.fst++(es.drop (dG tO es)).map Prod.fst:=by rw[←List.map_append,List.take_append_drop]
 rw[e]
 exact h
theorem vM(tO:Int)(es:List ja):(dR tO es).length≤es.length:=by
 have:=(Am tO es).length_le
 rwa [List.length_map,List.length_map]at this
theorem vL{low next tO:Int}{es:List ja}(h:Nr low next es)(h1:low≤tO)(h2:tO≤next):Nr tO next (dR tO es):=by
 have hs:=Am tO es
 refine⟨by have:=h.EU;omega,h2,fun e he =>?_,?_⟩
 ·have h3:=hs.subset (List.mem_map_of_mem (f:=Prod.fst) he)
  obtain⟨e0,he0,e1⟩:=List.mem_map.1 h3
  rw[←e1]
  exact h.off e0 he0
 ·have h3:(es.map Prod.fst).Pairwise (· < ·):=by
   rw[List.pairwise_map]
   exact h.asc
  have h4:=h3.sublist hs
  rw[List.pairwise_map]at h4
  exact h4
theorem Ao{low next tO:Int}{es:List ja}(h:Nr low next es)(h1:low≤tO)(h2:tO≤next):dG tO (dR tO es)=(ko (gG es (dG tO es)) (es.take (dG tO es))).length:=by
 have hl:=vL h h1 h2
 refine BQ hl.asc (by unfold dR;simp) fun i hi =>?_
 by_cases hi2:i<(ko (gG es (dG tO es)) (es.take (dG tO es))).length
 ·refine⟨fun _ =>?_,fun _=>hi2⟩
  have e:(dR tO es)[i]=(ko (gG es (dG tO es)) (es.take (dG tO es)))[i]:=by
   unfold dR at hi ⊢
   rw[List.getElem_append_left hi2]
  rw[e]
  have h3:=(nE (gG es (dG tO es)) (es.take (dG tO es))).subset (List.mem_map_of_mem (f:=Prod.fst) (lgm hi2))
  obtain⟨e0,he0,e1⟩:=List.mem_map.1 h3
  rw[←e1]
  obtain⟨j,hj,rfl⟩:=List.getElem_of_mem he0
  rw[List.getElem_take]
  have hj':j<dG tO es:=by
   rw[List.length_take]at hj
   omega
  exact(qG h.asc (by have:=wY tO es;omega)).1 hj'
 ·refine⟨fun h3=>absurd h3 hi2,fun h3 =>?_⟩
  exfalso
  have hlen:(dR tO es).length=(ko (gG es (dG tO es)) (es.take (dG tO es))).length+(es.length-dG tO es):=by
   unfold dR
   rw[List.length_append,List.length_drop]
  have e:(dR tO es)[i]=es[dG tO es+(i-(ko (gG es (dG tO es)) (es.take (dG tO es))).length)]' omA:=by
   unfold dR at hi ⊢
   rw[List.getElem_append_right omA,List.getElem_drop]
  rw[e]at h3
  have h4:=(qG h.asc (b:=tO) omA).2 h3
  omega
theorem sO{ts:List Tab}{k:Nat}(hok:aN ts)(hk:k<ts.length){es:List ja}(tO:Int)(ho:bK ts (es.map Prod.snd))(ht:∀x∈es.map Prod.snd,x.table=(k:Int)):
 bK ts ((dR tO es).map Prod.snd)∧(∀x∈(dR tO es).map Prod.snd,x.table=(k:Int))∧dL [] ((dR tO es).map Prod.snd)=dL [] (es.map Prod.snd):=by
 have e:es.map Prod.snd=(es.take (dG tO es)).map Prod.snd++(es.drop (dG tO es)).map Prod.snd:=by rw[←List.map_append,List.take_append_drop]
 have e2:(dR tO es).map Prod.snd=((es.take (dG tO es)).map Prod.snd).flatMap (bS (dL [] ((es.take (dG tO es)).map Prod.snd)))++(es.drop (dG tO es)).map Prod.snd:=by
  unfold dR
  rw[List.map_append,vN]
  rfl
 have ha:=lT ho ht
 rw[e]at ho ht ha
 rw[e2,e]
 refine⟨Lc ho _,fun x hx =>?_,(Na hok hk ha).2⟩
 rcases List.mem_append.1 hx with hx|hx
 ·exact Po (fun x hx=>ht x (List.mem_append_left _ hx)) x hx
 ·exact ht x (List.mem_append_right _ hx)
theorem DT{ts:List Tab}{k:Nat}(hok:aN ts)(hk:k<ts.length){low next:Int}{es:List ja}{tO:Int}(h:Nr low next es)(h1:low≤tO)(h2:tO≤next)(ho:bK ts (es.map Prod.snd))(ht:∀x∈es.map Prod.snd,x.table=(k:Int)):
 dG tO (dR tO es)≤(gG es (dG tO es)).length*ts[k].ae.length:=by
 rw[Ao h h1 h2]
 have e:es.map Prod.snd=(es.take (dG tO es)).map Prod.snd++(es.drop (dG tO es)).map Prod.snd:=by rw[←List.map_append,List.take_append_drop]
 have ha:=lT ho ht
 rw[e]at ha
 have hc:=FO hok hk (yZ ha)
 have e3:(ko (gG es (dG tO es)) (es.take (dG tO es))).length=(((es.take (dG tO es)).map Prod.snd).flatMap (bS (dL [] ((es.take (dG tO es)).map Prod.snd)))).length:=by
  have:=congrArg List.length (vN (gG es (dG tO es)) (es.take (dG tO es)))
  rw[List.length_map]at this
  exact this
 rw[e3]
 exact hc
open Go.RowKit Go
structure dF (ts:List Tab) (k:Nat) (low next:Int) (ps:List ja):Prop where
 log:Nr low next ps
 top:next≤1099511627776
 ord:bK ts (ps.map Prod.snd)
 tab:∀x∈ps.map Prod.snd,x.table=(k:Int)
 lt:k<ts.length
 len:ps.length≤256
theorem wR{ts:List Tab}{l:List Chg}(h:bK ts l):bK ts (l.map unC):=
 ib h.cat (by rw[List.length_map];exact h.len) (fun x hx=>by
  obtain⟨y,hy,rfl⟩:=List.mem_map.1 hx
  exact j6 (iP h y hy)) (by rw[List.pairwise_map];exact(pR h).imp fun h=>h)
section
variable {ts:List Tab}{k:Nat}{low next:Int}{ps:List ja}
theorem dF.cat(h:dF ts k low next ps):aN ts:=h.ord.cat
theorem dF.nil(hok:aN ts)(hk:k<ts.length):dF ts k 0 0 []:=
 ⟨⟨Int.le_refl _,Int.le_refl _,(fun e h=>by cases h),List.Pairwise.nil⟩,by decide,ib hok spA (fun x h=>by cases h) List.Pairwise.nil,(fun x h=>by cases h),hk,by simp⟩
theorem dF.app(h:dF ts k low next ps){x:Chg}(ht:x.table=(k:Int))(ho:bK ts (ps.map Prod.snd ++ [x]))(hl:ps.length<256)(hn:next<1099511627776):dF ts k low (next+1) (ps ++ [(next,x)]):=by
 have h1:=h.log.EU
 have h2:=h.log.Im
 refine⟨⟨h1,by omega,fun e he =>?_,List.pairwise_append.2 ⟨h.log.asc,by simp,fun a ha b hb =>?_⟩⟩,by omega,by simpa using ho,fun y hy =>?_,h.lt,by simp;omega⟩
 ·rcases List.mem_append.1 he with he|he
  ·have:=h.log.off e he;omega
  ·rw[List.mem_singleton.1 he];exact⟨by show 0≤next;omega,by show next<next+1;omega⟩
 ·rw[List.mem_singleton.1 hb];exact(h.log.off a ha).2
 ·rw[List.map_append]at hy
  rcases List.mem_append.1 hy with hy|hy
  ·exact h.tab y hy
  ·rw[List.map_singleton,List.mem_singleton]at hy
   rw[hy];exact ht
theorem dF.comp(h:dF ts k low next ps){tO:Int}(h1:low≤tO)(h2:tO≤next):dF ts k tO next (dR tO ps):=by
 obtain⟨g1,g2,_⟩:=sO h.cat h.lt tO h.ord h.tab
 exact⟨vL h.log h1 h2,h.top,g1,g2,h.lt,Nat.le_trans (vM tO ps) h.len⟩
theorem dF.take(h:dF ts k low next ps)(n:Nat):bK ts ((ps.take n).map Prod.snd):=by
 rw[List.map_take];exact pQ h.ord n
theorem dF.recs(h:dF ts k low next ps){l:List Chg}(hl:l.map unC=ps.map Prod.snd):(bM ts l)[k]?=some (dL [] (ps.map Prod.snd)):=by
 rw[←xM,hl]
 exact KP h.lt (iP h.ord) h.tab
theorem dF.PV(h:dF ts k low next ps)(n:Nat){l:List Chg}(hl:l.map unC=(ps.take n).map Prod.snd):(bM ts l)[k]?=some (gG ps n):=by
 rw[←xM,hl]
 exact KP h.lt (iP (h.take n)) fun x hx=>h.tab x (by rw[List.map_take]at hx;exact List.mem_of_mem_take hx)
end
end Go.Proofs.YtjidligipoldeaaGreat
