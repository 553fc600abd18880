/-
  Contracts and plain laws of this seat, part 76.
-/
import Derived.Test.YtjidligipoldeaaGreatT71
set_option linter.unusedVariables false
set_option linter.unusedSimpArgs false
set_option maxRecDepth 100000
set_option maxHeartbeats 16000000
namespace Go.Proofs.YtjidligipoldeaaGreat
open Go.RowKit Go
def dL(t:List aG)(l:List Chg):List aG:=l.foldl aW t
structure Good (ae:List Col) (t:List aG) (q:Int):Prop where
 ok:iy ae t
 old:∀r∈t,∀s∈r.2.1,s<q
structure eX (ts:List Tab) (k:Nat) (q:Int) (l:List Chg):Prop where
 form:∀x∈l,aV ts x=0
 tab:∀x∈l,x.table=(k:Int)
 low:∀x∈l,q≤x.seq
 asc:l.Pairwise (fun a b=>a.seq<b.seq)
theorem eX.tail{ts:List Tab}{k:Nat}{q:Int}{x:Chg}{l:List Chg}(h:eX ts k q (x::l)):eX ts k (x.seq+1) l:=
 ⟨fun y hy=>h.form y (by simp[hy]),fun y hy=>h.tab y (by simp[hy]),fun y hy=>by have:=(List.pairwise_cons.1 h.asc).1 y hy;omega,(List.pairwise_cons.1 h.asc).2⟩
theorem Good.mono{ae:List Col}{t:List aG}{q q':Int}(h:Good ae t q)(hq:q≤q'):Good ae t q':=⟨h.ok,fun r hr s hs=>Int.lt_of_lt_of_le (h.old r hr s hs) hq⟩
theorem Good.nil(ae:List Col)(q:Int):Good ae [] q:=⟨⟨by simp,(fun r hr=>by cases hr),List.Pairwise.nil,List.Pairwise.nil⟩,(fun r hr=>by cases hr)⟩
section
variable {ts:List Tab}{k:Nat}{t:List aG}{x:Chg}
theorem Good.step(hok:aN ts)(hk:k<ts.length)(h:Good ts[k].ae t x.seq)(hf:aV ts x=0)(ht:x.table=(k:Int)):Good ts[k].ae (aW t x) (x.seq+1):=by
 obtain⟨k',hin⟩:=fF hf
 have e:k'=k:=by have:=hin.tab;omega
 subst e
 refine⟨K5 hok hf hin h.ok h.old,?_⟩
 exact qV.sw (P:=fun s=>s<x.seq+1) (fun r hr s hs=>by have:=h.old r hr s hs;omega) omA
def From(t:List aG)(r':aG):Prop:= ∃r∈t,bH r=bH r'∧ay r=ay r'∧r.2.1.length=r'.2.1.length∧r.1.length=r'.1.length∧r.2.2=r'.2.2 ∧ ∀c,r.2.1.getD c 0≤r'.2.1.getD c 0
theorem From.self{r:aG}(h:r∈t):From t r:=⟨r,h,rfl,rfl,rfl,rfl,rfl,fun c=>Int.le_refl _⟩
theorem From.trans{t t':List aG}{r':aG}(h:From t' r')(hb:∀r∈t',From t r∨bH r=x.seq):From t r'∨bH r'=x.seq:=by
 obtain⟨r,hr,h1,h2,h3,h4,h5,h6⟩:=h
 rcases hb r hr with ⟨r0,hr0,g1,g2,g3,g4,g5,g6⟩|g
 ·exact .inl ⟨r0,hr0,g1.trans h1,g2.trans h2,g3.trans h3,g4.trans h4,g5.trans h5,fun c=>Int.le_trans (g6 c) (h6 c)⟩
 ·exact .inr (h1.symm.trans g)
theorem IY(hok:aN ts)(hk:k<ts.length)(h:Good ts[k].ae t x.seq)(hf:aV ts x=0):∀r'∈aW t x,From t r'∨bH r'=x.seq:=fun r' hr'=>by
 have hx:=ou hok hf
 have hK:aT t:=h.ok.keys (hok.ae hk).1
 rcases hx.kind with h1|h2|h3
 ·by_cases hfit:(∃r∈t,ay r=keyOf x)∨t.length<64
  ·rcases(kP hK hx.val hx.key h1 hfit).1 hr' with rfl|⟨h4,_⟩
   ·exact .inr (qD (hx.row h1))
   ·exact .inl (From.self h4)
  ·rw[uZ hK hx.val (fun r hr e=>hfit (.inl ⟨r,hr,e⟩)) (.inr fun h=>hfit (.inr h))]at hr'
   exact .inl (From.self hr')
 ·rcases(kN hK hx.val hx.key h2).1 hr' with ⟨h4,_⟩|⟨r0,h4,_,rfl⟩
  ·exact .inl (From.self h4)
  ·refine .inl ⟨r0,h4,(iW (hx.col h2)).symm,(vD (hx.col h2)).symm,by simp[ku],by simp[ku],rfl,fun c =>?_⟩
   show r0.2.1.getD c 0≤(r0.2.1.set x.column.toNat x.seq).getD c 0
   rw[List.getD_eq_getElem?_getD,List.getD_eq_getElem?_getD,List.getElem?_set]
   split
   ·rename_i e
    subst e
    split
    ·rename_i hl
     rw[List.getElem?_eq_getElem hl]
     exact Int.le_of_lt (h.old r0 h4 _ (lgm hl))
    ·rename_i hl
     rw[List.getElem?_eq_none omA]
     exact Int.le_refl _
   ·exact Int.le_refl _
 ·exact .inl (From.self ((nX hK hx.val hx.key h3).1 hr').1)
end
theorem j5{ts:List Tab}{k:Nat}(hok:aN ts)(hk:k<ts.length):∀(l:List Chg) (t:List aG) (q:Int),Good ts[k].ae t q→eX ts k q l→(∃q',Good ts[k].ae (dL t l) q') ∧ ∀r'∈dL t l,From t r' ∨ ∃x∈l,bH r'=x.seq
 | [],t,q,hg,ha=>⟨⟨q,hg⟩,fun r' hr' =>.inl (From.self hr')⟩
 | x::l,t,q,hg,ha=>by
   have hf:=ha.form x spA
   have hgx:=hg.mono (ha.low x spA)
   have hst:=hgx.step hok hk hf (ha.tab x spA)
   obtain⟨h1,h2⟩:=j5 hok hk l (aW t x) (x.seq+1) hst ha.tail
   refine⟨h1,fun r' hr' =>?_⟩
   rcases h2 r' hr' with h3|⟨y,hy,h3⟩
   ·rcases h3.trans (IY hok hk hgx hf) with h4|h4
    ·exact .inl h4
    ·exact .inr ⟨x,by simp,h4⟩
   ·exact .inr ⟨y,by simp[hy],h3⟩
theorem Gu{ae:List Col}{t:List aG}(h:iy ae t){a b:aG}(ha:a∈t)(hb:b∈t)(he:bH a=bH b):a=b:=by
 obtain⟨i,hi,rfl⟩:=List.getElem_of_mem ha
 obtain⟨j,hj,rfl⟩:=List.getElem_of_mem hb
 rcases Nat.lt_trichotomy i j with h1|h1|h1
 ·exact absurd he (List.pairwise_iff_getElem.1 h.own i j hi hj h1)
 ·subst h1;rfl
 ·exact absurd he.symm (List.pairwise_iff_getElem.1 h.own j i hj hi h1)
def nC(T:List aG)(q:Int):Option aG:=T.find? fun r'=>decide (bH r'=q)
def uU(r' r:aG):aG:=(r.1.mapIdx fun m x=>if r.2.1.getD m 0=r'.2.1.getD m 0 then x else dS,r.2.1.mapIdx fun m q=>if q=r'.2.1.getD m 0 then q else bH r,r.2.2)
def resR(T:List aG)(r:aG):aG:=match nC T (bH r) with
 | some r'=>uU r' r
 | none=>r
def nQ(T:List aG)(r:aG):Bool:=(nC T (bH r)).isSome
def pG(T t:List aG):List aG:=(t.filter (nQ T)).map (resR T)
def bS(T:List aG)(x:Chg):List Chg:=
 if x.kind=1 then (match nC T x.seq with
  | some r =>[⟨x.kind,x.seq,x.day,x.table,none,0,x.row.mapIdx fun m y=>if r.2.1.getD m 0=x.seq then y else dS,x.key,x.column,x.val⟩]
  | none =>[])
 else if x.kind=2 then (match T.find? fun r=>decide (ay r=x.key) with
  | some r=>if r.2.1.getD x.column.toNat 0=x.seq then [unC x] else []
  | none =>[])
 else []
theorem gU{T:List aG}{q:Int}{r:aG}(h:nC T q=some r):r∈T∧bH r=q:=by
 unfold nC at h
 exact⟨List.mem_of_find?_eq_some h,by simpa using List.find?_some h⟩
theorem I6{T:List aG}{q:Int}(h:nC T q=none):∀r∈T,bH r≠q:=by
 unfold nC at h
 intro r hr
 simpa using List.find?_eq_none.1 h r hr
theorem BN{ae:List Col}{T:List aG}(hT:iy ae T){r:aG}(h:r∈T):nC T (bH r)=some r:=by
 cases hf:nC T (bH r) with
 | none=>exact absurd rfl (I6 hf r h)
 | some r' =>
   obtain⟨h1,h2⟩:=gU hf
   rw[Gu hT h1 h h2]
theorem eH{T t:List aG}{r:aG}:r∈pG T t ↔ ∃r0∈t,nQ T r0=true∧r=resR T r0:=by
 unfold pG
 rw[List.mem_map]
 constructor
 ·rintro⟨r0,h,rfl⟩
  obtain⟨h1,h2⟩:=List.mem_filter.1 h
  exact⟨r0,h1,h2,rfl⟩
 ·rintro⟨r0,h1,h2,rfl⟩
  exact⟨r0,List.mem_filter.2 ⟨h1,h2⟩,rfl⟩
theorem EI{r r':aG}(h:bH r'=bH r)(hl:r.1.length=r.2.1.length):ay (uU r' r)=ay r:=by
 obtain⟨a,b,d⟩:=r
 obtain⟨a',b',d'⟩:=r'
 unfold ay uU
 cases a with
 | nil=>rfl
 | cons v vs =>
   cases b with
   | nil=>simp at hl
   | cons u us =>
     have e:(u::us).getD 0 0=b'.getD 0 0:=by
      cases b' with
      | nil=>simpa[bH]using h.symm
      | cons w ws=>simpa[bH]using h.symm
     simp only[List.mapIdx_cons,List.headD_cons]
     rw[if_pos e]
theorem gI(T:List aG){r:aG}(hl:r.1.length=r.2.1.length):ay (resR T r)=ay r:=by
 unfold resR
 split
 ·rename_i r' h
  exact EI (gU h).2 hl
 ·rfl
theorem KY(T:List aG)(r:aG):(resR T r).1.length=r.1.length:=by
 unfold resR
 split
 ·simp[uU]
 ·rfl
theorem Hz{ae:List Col}{T:List aG}(hT:iy ae T):pG T T=T:=by
 unfold pG
 have h1:T.filter (nQ T)=T:=List.filter_eq_self.2 fun r hr=>by unfold nQ;rw[BN hT hr];rfl
 rw[h1]
 apply List.ext_getElem
 ·simp
 intro i h2 h3
 rw[List.getElem_map]
 unfold resR
 rw[BN hT (lgm h3)]
 simp only
 unfold uU
 simp only[ite_true]
 refine Prod.ext ?_ (Prod.ext ?_ rfl)
 ·apply List.ext_getElem
  ·simp
  ·intro j h4 h5
   simp
 ·apply List.ext_getElem
  ·simp
  ·intro j h4 h5
   have h6:j<T[i].2.1.length:=h5
   simp only[List.getElem_mapIdx]
   rw[if_pos (by rw[List.getD_eq_getElem?_getD,List.getElem?_eq_getElem h6];rfl)]
theorem aT.res{t:List aG}(h:aT t)(T:List aG)(hl:∀r∈t,r.1.length=r.2.1.length):aT (pG T t):=by
 refine⟨fun r hr =>?_,fun r hr =>?_,?_⟩
 ·obtain⟨r0,h0,_,rfl⟩:=eH.1 hr
  rw[KY]
  exact h.row r0 h0
 ·obtain⟨r0,h0,_,rfl⟩:=eH.1 hr
  rw[gI T (hl r0 h0)]
  exact h.val r0 h0
 ·unfold pG
  rw[List.pairwise_map]
  refine((h.asc.filter _).imp_of_mem fun {a b} ha hb hab =>?_)
  rw[gI T (hl a (List.mem_filter.1 ha).1),gI T (hl b (List.mem_filter.1 hb).1)]
  exact hab
open Go.RowKit Go
theorem l9{l:List Int}{m:Nat}(h:m<l.length)(d:Int):l.getD m d=l[m]:=by rw[List.getD_eq_getElem?_getD,List.getElem?_eq_getElem h];rfl
theorem uI{l:List Int}{c m:Nat}(q d:Int)(hc:c<l.length):(l.set c q).getD m d=if m=c then q else l.getD m d:=by
 rw[List.getD_eq_getElem?_getD,List.getD_eq_getElem?_getD,List.getElem?_set]
 by_cases e:c=m
 ·subst e
  rw[if_pos rfl,if_pos rfl,if_pos hc]
  rfl
 ·rw[if_neg e,if_neg (fun h=>e h.symm)]
theorem KW{r r':aG}{x:Chg}(hl:r.1.length=r.2.1.length)(hc:x.column.toNat<r.2.1.length)(h0:0<x.column.toNat)(hq:r'.2.1.getD x.column.toNat 0=x.seq):uU r' (ku r x)=ku (uU r' r) (unC x):=by
 have hh:bH (ku r x)=bH r:=iW h0
 unfold uU
 rw[hh]
 unfold ku
 simp only[show (unC x).column=x.column from rfl,show (unC x).val=x.val from rfl,show (unC x).seq=x.seq from rfl]
 refine Prod.ext ?_ (Prod.ext ?_ rfl)
 ·apply List.ext_getElem
  ·simp
  intro m h1 h2
  simp only[List.getElem_mapIdx,List.getElem_set,uI _ _ hc]
  by_cases e:m=x.column.toNat
  ·have e':x.column.toNat=m:=e.symm
   rw[if_pos e,if_pos e',if_pos e',if_pos (by rw[e];exact hq.symm)]
  ·have e':¬ x.column.toNat=m:=fun h=>e h.symm
   rw[if_neg e,if_neg e',if_neg e']
 ·apply List.ext_getElem
  ·simp
  intro m h1 h2
  simp only[List.getElem_mapIdx,List.getElem_set]
  by_cases e':x.column.toNat=m
  ·rw[if_pos e',if_pos e',if_pos (by rw[←e'];exact hq.symm)]
  ·rw[if_neg e',if_neg e']
theorem Hy{r r':aG}{x:Chg}(hl:r.1.length=r.2.1.length)(hc:x.column.toNat<r.2.1.length)(h0:0<x.column.toNat)(hq:r'.2.1.getD x.column.toNat 0≠x.seq)(hq2:r.2.1.getD x.column.toNat 0≠r'.2.1.getD x.column.toNat 0):uU r' (ku r x)=uU r' r:=by
 have hh:bH (ku r x)=bH r:=iW h0
 unfold uU
 rw[hh]
 unfold ku
 refine Prod.ext ?_ (Prod.ext ?_ rfl)
 ·apply List.ext_getElem
  ·simp
  intro m h1 h2
  simp only[List.getElem_mapIdx,List.getElem_set,uI _ _ hc]
  by_cases e:m=x.column.toNat
  ·have e':x.column.toNat=m:=e.symm
   rw[if_pos e,if_pos e',if_neg (by rw[e];exact fun h=>hq h.symm),if_neg (by rw[e];exact hq2)]
  ·have e':¬ x.column.toNat=m:=fun h=>e h.symm
   rw[if_neg e,if_neg e']
 ·apply List.ext_getElem
  ·simp
  intro m h1 h2
  simp only[List.getElem_mapIdx,List.getElem_set]
  by_cases e':x.column.toNat=m
  ·subst e'
   have h3:=l9 hc 0
   rw[if_pos rfl,if_neg (fun h=>hq h.symm),if_neg (fun h=>hq2 (by rw[h3];exact h))]
  ·rw[if_neg e']
theorem KX{r':aG}{x:Chg}(h0:0<x.row.length)(hh:bH r'=x.seq):uU r' (dX x)=dX ⟨x.kind,x.seq,x.day,x.table,none,0,x.row.mapIdx fun m y=>if r'.2.1.getD m 0=x.seq then y else dS,x.key,x.column,x.val⟩:=by
 unfold uU
 rw[qD h0]
 unfold dX
 refine Prod.ext ?_ (Prod.ext ?_ rfl)
 ·apply List.ext_getElem
  ·simp
  intro m h1 h2
  have hm:m<x.row.length:=by simpa using h1
  simp only[List.getElem_mapIdx]
  have e:(List.replicate x.row.length x.seq).getD m 0=x.seq:=by
   rw[List.getD_eq_getElem?_getD,List.getElem?_replicate,if_pos hm]
   rfl
  rw[e]
  by_cases h3:x.seq=r'.2.1.getD m 0
  ·rw[if_pos h3,if_pos h3.symm]
  ·rw[if_neg h3,if_neg (fun h=>h3 h.symm)]
 ·apply List.ext_getElem
  ·simp
  intro m h1 h2
  simp only[List.getElem_mapIdx,List.getElem_replicate]
  split<;>rfl
section
variable {ts:List Tab}{k:Nat}{t T:List aG}{x:Chg}
theorem DC{x:Chg}(h:aV ts x=0)(h1:x.kind=1)(p:Nat→Bool)(hp:p 0=true):aV ts ⟨x.kind,x.seq,x.day,x.table,none,0,x.row.mapIdx fun m y=>if p m=true then y else dS,x.key,x.column,x.val⟩=0:=by
 obtain⟨hi,hk,ht,hb,hf⟩:=ma h
 have hk1:(x.kind == 1)=true:=by simpa using h1
 have hlen:(x.row.mapIdx fun m y=>if p m=true then y else dS).length=x.row.length:=by simp
 have hat:∀i (hi:i<x.row.length),(x.row.mapIdx fun m y=>if p m=true then y else dS)[i]'(by rw[hlen];exact hi)=if p i=true then x.row[i] else dS:=fun i hi=>by simp
 have e1:keyOf ⟨x.kind,x.seq,x.day,x.table,none,0,x.row.mapIdx fun m y=>if p m=true then y else dS,x.key,x.column,x.val⟩=keyOf x:=by
  rw[qA h1,qA (x:=⟨x.kind,x.seq,x.day,x.table,none,0,x.row.mapIdx fun m y=>if p m=true then y else dS,x.key,x.column,x.val⟩) h1]
  show (x.row.mapIdx fun m y=>if p m=true then y else dS).headD dS=_
  cases x.row with
  | nil=>rfl
  | cons a t=>simp[hp]
 have hrow:qN x.row=true→qN (x.row.mapIdx fun m y=>if p m=true then y else dS)=true:=fun h=>by
  unfold qN at h ⊢
  rw[Bool.and_eq_true,decide_eq_true_eq,List.all_eq_true]at h
  rw[Bool.and_eq_true,decide_eq_true_eq,List.all_eq_true,hlen]
  refine⟨h.1,fun y hy =>?_⟩
  obtain⟨i,hi,rfl⟩:=List.getElem_of_mem hy
  rw[hlen]at hi
  rw[hat i hi]
  split
  ·exact h.2 _ (lgm hi)
  ·decide +kernel
 refine M6 ?_ (by rw[e1];exact hk) ?_ ?_ hf
 ·unfold bB at hi ⊢
  rw[hk1,if_pos rfl,Bool.or_eq_false_iff]at hi
  show (eB ts.length x||(if (x.kind == 1)=true then dD _ _ else _))=false
  rw[hk1,if_pos rfl,hi.1,Bool.false_or]
  have h2:=hi.2
  unfold dD at h2 ⊢
  rw[Bool.or_eq_false_iff]at h2
  simp only[hlen]
  rw[Bool.or_eq_false_iff]
  refine⟨h2.1,?_⟩
  rw[hrow (by simpa using h2.2)]
  rfl
 ·intro i hi' hk'
  have hl:i<x.row.length:=by rw[←hlen];exact hi'
  show dz ((x.row.mapIdx fun m y=>if p m=true then y else dS)[i]'hi') _=true
  rw[hat i hl]
  split
  ·exact ht i hl hk'
  ·simp[dz]
 ·unfold iw at hb ⊢
  rw[e1]
  exact hb
end
theorem Je{ts:List Tab}{k:Nat}{t T:List aG}{x:Chg}{q':Int}(hok:aN ts)(hk:k<ts.length)(h:Good ts[k].ae t x.seq)(hf:aV ts x=0)(ht:x.table=(k:Int))(hT:Good ts[k].ae T q')(GR:∀r'∈T,From (aW t x) r'∨x.seq<bH r'):
 dL (pG T t) (bS T x)=pG T (aW t x)∧(∀y∈bS T x,Kept ts x y)∧(bS T x).length≤1:=by
 have hx:=ou hok hf
 have hpos:=(hok.ae hk).1
 have hK:aT t:=h.ok.keys hpos
 have hKT:aT T:=hT.ok.keys hpos
 have hG':=h.step hok hk hf ht
 have hK':aT (aW t x):=hG'.ok.keys hpos
 have hlen:∀r∈t,r.1.length=r.2.1.length:=fun r hr=>by rw[(h.ok.rcd r hr).len,(h.ok.rcd r hr).oO]
 have hlen':∀r∈aW t x,r.1.length=r.2.1.length:=fun r hr=>by rw[(hG'.ok.rcd r hr).len,(hG'.ok.rcd r hr).oO]
 have hR:aT (pG T t):=hK.res T hlen
 have hR':aT (pG T (aW t x)):=hK'.res T hlen'
 have hq:∀r∈t,bH r<x.seq:=fun r hr=>by
  have hl:0<r.2.1.length:=by rw[(h.ok.rcd r hr).oO];exact hpos
  have h6:=h.old r hr r.2.1[0] (lgm hl)
  have e:bH r=r.2.1[0]:=by
   obtain⟨a,b,c⟩:=r
   cases b with
   | nil=>simp at hl
   | cons u us=>rfl
  rw[e]
  exact h6
 -- a record that is gone behind the change does not live on
 have gone:∀r∈t,(∀r1∈aW t x,bH r1≠bH r)→nQ T r=false:=fun r hr hno=>by
  unfold nQ
  cases hfr:nC T (bH r) with
  | none=>rfl
  | some r' =>
    obtain⟨h1,h2⟩:=gU hfr
    rcases GR r' h1 with ⟨r1,h3,h4,_⟩|h3
    ·exact absurd (h4.trans h2) (hno r1 h3)
    ·have:=hq r hr
     omega
 rcases hx.kind with h1|h2|h3
 ·have hqn:bH (dX x)=x.seq:=qD (hx.row h1)
  by_cases hfit:(∃r∈t,ay r=keyOf x)∨t.length<64
  ·have hm:∀r,r∈aW t x↔r=dX x∨(r∈t∧ay r≠keyOf x):=fun r=>kP hK hx.val hx.key h1 hfit
   have hold:∀r∈t,ay r=keyOf x→nQ T r=false:=fun r hr he=>gone r hr fun r1 hr1 e=>by
    rcases(hm r1).1 hr1 with rfl|⟨h4,h5⟩
    ·have:=hq r hr;omega
    ·exact h5 (by rw[Gu h.ok h4 hr e];exact he)
   cases hfr:nC T x.seq with
   | none =>
     have hc:bS T x=[]:=by unfold bS;rw[if_pos h1,hfr]
     rw[hc]
     refine⟨hR.ext hR' fun r =>?_,(fun y hy=>by cases hy),by simp⟩
     rw[eH,eH]
     constructor
     ·rintro⟨r0,g1,g2,g3⟩
      exact⟨r0,(hm r0).2 (.inr ⟨g1,fun e=>by rw[hold r0 g1 e]at g2;cases g2⟩),g2,g3⟩
     ·rintro⟨r0,g1,g2,g3⟩
      rcases(hm r0).1 g1 with rfl|⟨g4,_⟩
      ·unfold nQ at g2
       rw[hqn,hfr]at g2
       cases g2
      ·exact⟨r0,g4,g2,g3⟩
   | some r' =>
     obtain⟨hr1,hr2⟩:=gU hfr
     obtain⟨y,hy⟩:∃y,(⟨x.kind,x.seq,x.day,x.table,none,0,x.row.mapIdx fun m y=>if r'.2.1.getD m 0=x.seq then y else dS,x.key,x.column,x.val⟩:Chg)=y:=⟨_,rfl⟩
     have hc:bS T x=[y]:=by unfold bS;rw[if_pos h1,hfr,←hy]
     have h0:r'.2.1.getD 0 0=x.seq:=by
      rw[←hr2]
      unfold bH
      cases r'.2.1<;>rfl
     have hfy:aV ts y=0:=by
      have h5:=DC (x:=x) hf h1 (fun m=>decide (r'.2.1.getD m 0=x.seq)) (decide_eq_true h0)
      simp only[decide_eq_true_eq]at h5
      rw[←hy]
      exact h5
     have hky:keyOf y=keyOf x:=by
      rw[qA h1,qA (x:=y) (by rw[←hy];exact h1),←hy]
      show (x.row.mapIdx fun m y=>if r'.2.1.getD m 0=x.seq then y else dS).headD dS=_
      cases x.row with
      | nil=>rfl
      | cons a t=>simp only[List.mapIdx_cons,List.headD_cons];rw[if_pos h0]
     have hyk:y.kind=1:=by rw[←hy];exact h1
     have hxy:=ou hok hfy
     have hnew:dX y=resR T (dX x):=by
      unfold resR
      rw[hqn,hfr,←hy]
      exact(KX (hx.row h1) hr2).symm
     have hsn:nQ T (dX x)=true:=by unfold nQ;rw[hqn,hfr];rfl
     have UN:(∃r∈pG T t,ay r=keyOf y)∨(pG T t).length<64:=by
      right
      have h64:=h.ok.len
      have hle:(t.filter (nQ T)).length≤t.length:=List.length_filter_le _ _
      unfold pG
      rw[List.length_map]
      rcases hfit with ⟨r0,g1,g2⟩|hl
      ·have g3:=hold r0 g1 g2
       have:(t.filter (nQ T)).length<t.length:=List.length_filter_lt_length_iff_exists.2 ⟨r0,g1,by rw[g3];simp⟩
       omega
      ·omega
     rw[hc]
     refine⟨?_,fun z hz=>by rw[List.mem_singleton.1 hz];exact⟨hfy,by rw[←hy],by rw[←hy],by rw[←hy]⟩,by simp⟩
     show aW (pG T t) y=_
     refine(hR.sw hfy hok).ext hR' fun r =>?_
     rw[kP hR hxy.val hxy.key hyk UN,eH (t:=aW t x),hky]
     constructor
     ·rintro(rfl|⟨g1,g2⟩)
      ·exact⟨dX x,(hm _).2 (.inl rfl),hsn,hnew⟩
      ·obtain⟨r0,g3,g4,rfl⟩:=eH.1 g1
       rw[gI T (hlen r0 g3)]at g2
       exact⟨r0,(hm _).2 (.inr ⟨g3,g2⟩),g4,rfl⟩
     ·rintro⟨r0,g1,g2,rfl⟩
      rcases(hm _).1 g1 with rfl|⟨g3,g4⟩
      ·exact .inl hnew.symm
      ·exact .inr ⟨eH.2 ⟨r0,g3,g2,rfl⟩,by rw[gI T (hlen r0 g3)];exact g4⟩
  ·have hsame:aW t x=t:=uZ hK hx.val (fun r hr e=>hfit (.inl ⟨r,hr,e⟩)) (.inr fun g=>hfit (.inr g))
   have hc:bS T x=[]:=by
    unfold bS
    rw[if_pos h1]
    cases hfr:nC T x.seq with
    | none=>rfl
    | some r' =>
      exfalso
      obtain⟨g1,g2⟩:=gU hfr
      rcases GR r' g1 with ⟨r1,g3,g4,_⟩|g3
      ·rw[hsame]at g3
       have:=hq r1 g3
       omega
      ·omega
   rw[hc,hsame]
   exact⟨rfl,(fun y hy=>by cases hy),by simp⟩
 ·have hm:∀r,r∈aW t x↔(r∈t∧ay r≠keyOf x) ∨ ∃r0∈t,ay r0=keyOf x∧r=ku r0 x:=fun r=>kN hK hx.val hx.key h2
  obtain⟨hcc,hc0⟩:=BL hf h2
  have hkx:keyOf x=x.key:=Ip omA
  have hcl:∀r∈t,x.column.toNat<r.2.1.length:=fun r hr=>by
   obtain⟨k',hin⟩:=fF hf
   obtain⟨c,hu⟩:=ny hf h2 hin
   have e:k'=k:=by have:=hin.tab;omega
   subst e
   have h5:=hu.lt
   have h6:=hu.col
   rw[(h.ok.rcd r hr).oO,h6]
   simpa using h5
  -- the record with the key, as it ends
  have ends:∀r0∈t,ay r0=keyOf x→∀r',nC T (bH r0)=some r'→ay r'=keyOf x∧x.seq≤r'.2.1.getD x.column.toNat 0:=fun r0 hr0 he r' hfr=>by
   obtain⟨g1,g2⟩:=gU hfr
   rcases GR r' g1 with ⟨r1,g3,g4,g5,_,_,_,g6⟩|g3
   ·have hu:r1=ku r0 x:=by
     refine Gu hG'.ok g3 ((hm _).2 (.inr ⟨r0,hr0,he,rfl⟩)) ?_
     rw[iW hc0,g4,g2]
    refine⟨by rw[←g5,hu,vD hc0];exact he,?_⟩
    have g7:=g6 x.column.toNat
    rw[hu]at g7
    have g8:(ku r0 x).2.1.getD x.column.toNat 0=x.seq:=by
     show (r0.2.1.set x.column.toNat x.seq).getD x.column.toNat 0=x.seq
     rw[uI _ _ (hcl r0 hr0),if_pos rfl]
    rw[g8]at g7
    exact g7
   ·have:=hq r0 hr0
    omega
  have KN:∀r0∈t,nQ T (ku r0 x)=nQ T r0:=fun r0 _=>by unfold nQ;rw[iW hc0]
  have hcase:(∃r0∈t,ay r0=keyOf x ∧ ∃r',nC T (bH r0)=some r'∧r'.2.1.getD x.column.toNat 0=x.seq∧bS T x=[unC x])∨(bS T x=[] ∧ ∀r0∈t,ay r0=keyOf x→∀r',nC T (bH r0)=some r'→r'.2.1.getD x.column.toNat 0≠x.seq):=by
   cases hfk:T.find? fun r=>decide (ay r=x.key) with
   | none =>
     right
     have hno:=List.find?_eq_none.1 hfk
     refine⟨by unfold bS;rw[if_neg omA,if_pos h2,hfk],fun r0 hr0 he r' hfr _ =>?_⟩
     have h5:=(ends r0 hr0 he r' hfr).1
     have h6:=hno r' (gU hfr).1
     rw[hkx]at h5
     simp[h5]at h6
   | some r2 =>
     have g1:r2∈T:=List.mem_of_find?_eq_some hfk
     have g2:ay r2=x.key:=by simpa using List.find?_some hfk
     by_cases hs:r2.2.1.getD x.column.toNat 0=x.seq
     ·left
      have hc:bS T x=[unC x]:=by unfold bS;rw[if_neg omA,if_pos h2,hfk];simp only;rw[if_pos hs]
      rcases GR r2 g1 with ⟨r1,g3,g4,g5,_⟩|g3
      ·rcases(hm r1).1 g3 with ⟨_,g6⟩|⟨r0,g6,g7,rfl⟩
       ·exact absurd (g5.trans (g2.trans hkx.symm)) g6
       ·rw[iW hc0]at g4
        exact⟨r0,g6,g7,r2,by rw[g4];exact BN hT.ok g1,hs,hc⟩
      ·exfalso
       have hsl:=(hT.ok.rcd r2 g1).oO
       have lg:x.column.toNat<r2.2.1.length:=by
        rcases Nat.lt_or_ge x.column.toNat r2.2.1.length with g4|g4
        ·exact g4
        ·rw[List.getD_eq_getElem?_getD,List.getElem?_eq_none g4]at hs
         have:=hx.seq
         simp at hs
         omega
       have hl0:0<r2.2.1.length:=by omega
       have g5:=((hT.ok.rcd r2 g1).cell x.column.toNat omA).asc lg hl0
       rw[l9 lg]at hs
       have e:bH r2=r2.2.1[0]:=by
        obtain⟨a,b,c⟩:=r2
        cases b with
        | nil=>simp at hl0
        | cons u us=>rfl
       omega
     ·right
      refine⟨by unfold bS;rw[if_neg omA,if_pos h2,hfk];simp only;rw[if_neg hs],fun r0 hr0 he r' hfr hs' =>?_⟩
      have h5:=(ends r0 hr0 he r' hfr).1
      have h6:r'=r2:=hKT.uniq (gU hfr).1 g1 (h5.trans (hkx.trans g2.symm))
      exact hs (by rw[←h6];exact hs')
  rcases hcase with ⟨r0,hr0,he0,r',hfr,hs,hc⟩|⟨hc,hno⟩
  ·rw[hc]
   have hxu:=ou hok (j6 hf)
   refine⟨?_,fun z hz=>by rw[List.mem_singleton.1 hz];exact⟨j6 hf,rfl,rfl,rfl⟩,by simp⟩
   show aW (pG T t) (unC x)=_
   have hup:resR T (ku r0 x)=ku (resR T r0) (unC x):=by
    unfold resR
    rw[iW hc0,hfr]
    exact KW (hlen r0 hr0) (hcl r0 hr0) hc0 hs
   have hs0:nQ T r0=true:=by unfold nQ;rw[hfr];rfl
   refine(hR.sw (j6 hf) hok).ext hR' fun r =>?_
   rw[kN hR hxu.val hxu.key h2,eH (t:=aW t x),show keyOf (unC x)=keyOf x from rfl]
   constructor
   ·rintro(⟨g1,g2⟩|⟨q0,g1,g2,rfl⟩)
    ·obtain⟨r1,g3,g4,rfl⟩:=eH.1 g1
     rw[gI T (hlen r1 g3)]at g2
     exact⟨r1,(hm _).2 (.inl ⟨g3,g2⟩),g4,rfl⟩
    ·obtain⟨r1,g3,g4,rfl⟩:=eH.1 g1
     rw[gI T (hlen r1 g3)]at g2
     have:=hK.uniq g3 hr0 (g2.trans he0.symm)
     subst this
     exact⟨ku r1 x,(hm _).2 (.inr ⟨r1,g3,g2,rfl⟩),by rw[KN r1 g3];exact g4,hup.symm⟩
   ·rintro⟨r1,g1,g2,rfl⟩
    rcases(hm _).1 g1 with ⟨g3,g4⟩|⟨r2,g3,g4,rfl⟩
    ·exact .inl ⟨eH.2 ⟨r1,g3,g2,rfl⟩,by rw[gI T (hlen r1 g3)];exact g4⟩
    ·have:=hK.uniq g3 hr0 (g4.trans he0.symm)
     subst this
     exact .inr ⟨resR T r2,eH.2 ⟨r2,g3,hs0,rfl⟩,by rw[gI T (hlen r2 g3)];exact g4,hup⟩
  ·rw[hc]
   refine⟨hR.ext hR' fun r =>?_,(fun y hy=>by cases hy),by simp⟩
   have Qa:∀r0∈t,ay r0=keyOf x→resR T (ku r0 x)=resR T r0∨nQ T r0=false:=fun r0 hr0 he=>by
    cases hfr:nC T (bH r0) with
    | none=>right;unfold nQ;rw[hfr];rfl
    | some r' =>
      left
      unfold resR
      rw[iW hc0,hfr]
      have g1:=hno r0 hr0 he r' hfr
      have g2:=(ends r0 hr0 he r' hfr).2
      have g3:r0.2.1.getD x.column.toNat 0<x.seq:=by
       rw[l9 (hcl r0 hr0)]
       exact h.old r0 hr0 _ (lgm _)
      exact Hy (hlen r0 hr0) (hcl r0 hr0) hc0 g1 omA
   rw[eH,eH]
   constructor
   ·rintro⟨r0,g1,g2,rfl⟩
    by_cases he:ay r0=keyOf x
    ·refine⟨ku r0 x,(hm _).2 (.inr ⟨r0,g1,he,rfl⟩),by rw[KN r0 g1];exact g2,?_⟩
     rcases Qa r0 g1 he with g3|g3
     ·exact g3.symm
     ·rw[g2]at g3;cases g3
    ·exact⟨r0,(hm _).2 (.inl ⟨g1,he⟩),g2,rfl⟩
   ·rintro⟨r1,g1,g2,rfl⟩
    rcases(hm _).1 g1 with ⟨g3,_⟩|⟨r0,g3,g4,rfl⟩
    ·exact⟨r1,g3,g2,rfl⟩
    ·rw[KN r0 g3]at g2
     refine⟨r0,g3,g2,?_⟩
     rcases Qa r0 g3 g4 with g5|g5
     ·exact g5
     ·rw[g2]at g5;cases g5
 ·have hm:∀r,r∈aW t x↔r∈t∧ay r≠keyOf x:=fun r=>nX hK hx.val hx.key h3
  have hc:bS T x=[]:=by unfold bS;rw[if_neg omA,if_neg omA]
  rw[hc]
  refine⟨hR.ext hR' fun r =>?_,(fun y hy=>by cases hy),by simp⟩
  rw[eH,eH]
  constructor
  ·rintro⟨r0,g1,g2,g3⟩
   refine⟨r0,(hm r0).2 ⟨g1,fun e =>?_⟩,g2,g3⟩
   have:=gone r0 g1 fun r1 hr1 e1=>by
    obtain⟨g4,g5⟩:=(hm r1).1 hr1
    exact g5 (by rw[Gu h.ok g4 g1 e1];exact e)
   rw[this]at g2
   cases g2
  ·rintro⟨r0,g1,g2,g3⟩
   exact⟨r0,((hm r0).1 g1).1,g2,g3⟩
theorem DR{ts:List Tab}{k:Nat}(hok:aN ts)(hk:k<ts.length):∀(l:List Chg) (t:List aG) (q:Int),Good ts[k].ae t q→eX ts k q l→dL (pG (dL t l) t) (l.flatMap (bS (dL t l)))=dL t l
 | [],t,q,hg,ha=>Hz hg.ok
 | x::l,t,q,hg,ha=>by
   have hf:=ha.form x spA
   have hgx:=hg.mono (ha.low x spA)
   have htab:=ha.tab x spA
   have hst:=hgx.step hok hk hf htab
   obtain⟨⟨q',hT⟩,hfr⟩:=j5 hok hk l (aW t x) (x.seq+1) hst ha.tail
   have hstep:=(Je hok hk hgx hf htab hT fun r' hr'=>by
    rcases hfr r' hr' with h1|⟨y,hy,h1⟩
    ·exact .inl h1
    ·have:=ha.tail.low y hy
     exact .inr omA).1
   show dL (pG (dL (aW t x) l) t) (bS (dL (aW t x) l) x++l.flatMap (bS (dL (aW t x) l)))=dL (aW t x) l
   have h5:∀(t:List aG) (a b:List Chg),dL t (a++b)=dL (dL t a) b:=fun t a b=>by unfold dL;rw[List.foldl_append]
   rw[h5,hstep]
   exact DR hok hk l (aW t x) (x.seq+1) hst ha.tail
theorem Nc{ts:List Tab}{k:Nat}(hok:aN ts)(hk:k<ts.length){l:List Chg}{q:Int}(ha:eX ts k q l):dL [] (l.flatMap (bS (dL [] l)))=dL [] l:=DR hok hk l [] q (Good.nil _ _) ha
end Go.Proofs.YtjidligipoldeaaGreat
