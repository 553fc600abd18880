/-
  Contracts and plain laws of this seat, part 42.
-/
import Derived.Test.YtebippoohpnjkaaGreatF16
set_option linter.unusedVariables false
set_option linter.unusedSimpArgs false
set_option maxRecDepth 100000
set_option maxHeartbeats 16000000
namespace Go.Proofs.YtebippoohpnjkaaGreat
open Go.RowKit Go
theorem eC{P:Prop}(h:P:=by injection e):P:=h
theorem eE{P:Prop}(h:P:=by cases hx):P:=h
section
variable {P:Program}{ops:Array Oper}{Q:Exit→Act→World→Prop}
def gz(P:Program)(K:Value→World→Prop):Result Next→Prop
 | .ok (.value v) w=>K v w
 | .ok .skip w=>K undef w
 | .ok (.enter f args) w=>Calls P f args w fun x w' =>∃v,x=.returned v∧K v w'
 | _=>False
theorem BN{o:Oper}{a:Act}{w:World}{K:Value→World→Prop}{next:Act→World→Prop}(h:gz P K ((execOp a.eval o).run P w))(hn:∀v w',K v w'→next (a.put o.dst v) w'):Oper.wp P o a w next Q:=by
 unfold Oper.wp
 generalize (execOp a.eval o).run P w=r at h
 cases r with
 | ok n w' =>
   cases n<;>simp only[gz]at h
   ·exact hn _ _ h
   ·exact hn _ _ h
   ·refine h.mono ?_
    rintro x w'' ⟨v,rfl,hk⟩
    exact hn _ _ hk
 | halt x w'=>exact h.elim
def fI(ops:Array Oper)(k:Nat):Option Tmp:=(ops[k]?).bind (·.dst)
def mg(ops:Array Oper)(x:Nat→Value):Nat→Act→Act
 | 0,a=>a
 | n+1,a=>(mg ops x n a).put (fI ops n) (x n)
theorem pV(x:Nat→Value)(a:Act):∀n,(mg ops x n a).tmps.size=a.tmps.size∧(mg ops x n a).defers=a.defers
 | 0=>⟨rfl,rfl⟩
 | n + 1=>by
   have h:=pV x a n
   unfold mg Act.put
   split
   ·exact⟨by simp[h.1],h.2⟩
   ·exact h
theorem uw(x:Nat→Value)(a:Act)(t:Tmp):∀n,(∀k,k<n→fI ops k≠some t)→(mg ops x n a).tmps[t]?=a.tmps[t]?
 | 0,_=>rfl
 | n + 1,h=>by
   have ih:=uw x a t n (fun k hk=>h k omA)
   have h1:=h n omA
   unfold mg
   cases hd:fI ops n with
   | none=>exact ih
   | some d =>
     show (Array.setIfInBounds _ d _)[t]?=_
     rw[Array.getElem?_setIfInBounds_ne (fun e=>h1 (by rw[hd,e]))]
     exact ih
theorem Cm(val:Tmp→Value)(a:Act)(t:Tmp)(ht:t<a.tmps.size):∀n,(∃k,k<n∧fI ops k=some t)→(mg ops (fun k=>match fI ops k with|some t=>val t|none=>undef) n a).tmps[t]?=some (val t)
 | 0,h=>by obtain⟨k,h,_⟩:=h;omega
 | n + 1,h=>by
   have hs:=(pV (ops:=ops) (fun k=>match fI ops k with|some t=>val t|none=>undef) a n).1
   unfold mg
   by_cases hd:fI ops n=some t
   ·rw[hd]
    show (Array.setIfInBounds _ t _)[t]?=_
    rw[Array.getElem?_setIfInBounds,if_pos rfl,if_pos (by rw[hs];exact ht)]
   ·have ih:=Cm val a t ht n (by
     obtain⟨k,h1,h2⟩:=h
     rcases Nat.lt_or_ge k n with h3|h3
     ·exact⟨k,h3,h2⟩
     ·obtain rfl:k=n:=by omega
      exact absurd h2 hd)
    cases hd':fI ops n with
    | none=>exact ih
    | some d =>
      show (Array.setIfInBounds _ d _)[t]?=_
      rw[Array.getElem?_setIfInBounds_ne (fun e=>hd (by rw[hd',e]))]
      exact ih
theorem gF(a:Act)(t:Tmp):a.eval (.tmp t)=a.tmps[t]?.getD undef:=by
 show a.tmps.getD t undef=_
 rw[Array.getD_eq_getD_getElem?]
def AQ(ops:Array Oper)(t:Tmp):Bool:=(List.range ops.size).all fun k=>fI ops k != some t
theorem vJ{t:Tmp}(h:AQ ops t=true)(k:Nat):fI ops k≠some t:=by
 intro e
 rcases Nat.lt_or_ge k ops.size with hk|hk
 ·have:=List.all_eq_true.1 h k (List.mem_range.2 hk)
  rw[e]at this
  simp at this
 ·unfold fI at e
  rw[Array.getElem?_eq_none hk]at e
  cases e
def Mh(ops:Array Oper):Bool:=(List.range ops.size).all fun i=>(List.range ops.size).all fun j=>i==j||fI ops i==none||fI ops i != fI ops j
theorem IA(h:Mh ops=true){i j:Nat}{t:Tmp}(hi:fI ops i=some t)(hj:fI ops j=some t):i=j:=by
 have key:∀ {k:Nat},fI ops k=some t→k<ops.size:=fun {k} e=>by
  rcases Nat.lt_or_ge k ops.size with hk|hk
  ·exact hk
  ·unfold fI at e
   rw[Array.getElem?_eq_none hk]at e
   cases e
 have h1:=List.all_eq_true.1 (List.all_eq_true.1 h i (List.mem_range.2 (key hi))) j (List.mem_range.2 (key hj))
 rw[hi,hj]at h1
 simpa using h1
def lastB(ops:Array Oper)(n:Nat):Bool:=(List.range n).all fun j=>match ops[n]? with
 | some o=>o.after.any fun e=>Region.binds .any e&&e.on==j
 | none=>false
def Oy(o:Oper)(j:Nat):Bool:=o.after.any fun e=>Region.binds .any e&&e.on==j
def KD(ops:Array Oper):Bool:=(List.range ops.size).all fun k=>match ops[k]? with
 | some o=>o.after.all fun e => !Region.binds .any e||decide (e.on<k)
 | none=>true
theorem H9(h:KD ops=true){k:Nat}{o:Oper}(ho:ops[k]?=some o){e:Go.Edge}(he:e∈o.after)(hb:Region.binds .any e=true):e.on<k:=by
 have hk:k<ops.size:=(Array.getElem?_eq_some_iff.1 ho).1
 have h1:=List.all_eq_true.1 h k (List.mem_range.2 hk)
 rw[ho]at h1
 have h2:=Array.all_eq_true'.1 h1 e he
 rw[hb]at h2
 simpa using h2
def Gm(ops:Array Oper)(n:Nat):Bool:=(List.range ops.size).all fun k=>match fI ops k with
 | some t=>decide (t<n)
 | none=>true
theorem Em{n:Nat}(h:Gm ops n=true){k:Nat}{t:Tmp}(ht:fI ops k=some t):t<n:=by
 have hk:k<ops.size:=by
  rcases Nat.lt_or_ge k ops.size with hk|hk
  ·exact hk
  ·unfold fI at ht
   rw[Array.getElem?_eq_none hk]at ht
   cases ht
 have h1:=List.all_eq_true.1 h k (List.mem_range.2 hk)
 rw[ht]at h1
 simpa using h1
theorem xq{x y:Nat→Value}{a:Act}:∀ {n:Nat},(∀k,k<n→x k=y k)→mg ops x n a=mg ops y n a
 | 0,_=>rfl
 | n + 1,h=>by
   unfold mg
   rw[xq (n:=n) fun k hk=>h k omA,h n omA]
theorem BJ{a b:Act}(h:a.tmps=b.tmps)(h':a.defers=b.defers):a=b:=by
 cases a;cases b;simp only at h h';rw[h,h']
structure EvI (ops:Array Oper) (a0:Act) (F:Nat→Value→World→Prop) (o:Oper) (e:Operand→Value) (u:World):Prop where
 const:∀v,e (.const v)=v
 func:∀f,e (.func f)=.func (.func f) #[] #[]
 far:∀t,AQ ops t=true→e (.tmp t)=a0.eval (.tmp t)
 dep:∀j t,Oy o j=true→fI ops j=some t→F j (e (.tmp t)) u
structure Tx (ops:Array Oper) (a0:Act) (F:Nat→Value→World→Prop) (listed:Array Bool) (aa:Act) (u:World):Prop where
 fact:∀k t,listed.getD k false=true→fI ops k=some t→F k (aa.eval (.tmp t)) u
 rest:∀t,(∀k,fI ops k≠some t)→aa.tmps[t]?=a0.tmps[t]?
 size:aa.tmps.size=a0.tmps.size
 defers:aa.defers=a0.defers
theorem MX{F:Nat→Value→World→Prop}{R:World→Prop}{G:World→World→Prop}{L:(Operand→Value)→World→Value→World→Prop}{a0:Act}{n:Nat}(hn:ops.size=n+1)(hdst:Mh ops=true)(hlast:lastB ops n=true)(hlow:KD ops=true)
 (hsz:∀k t,fI ops k=some t→t<a0.tmps.size)
 (hG:∀k v u u',F k v u→R u→G u u'→F k v u')
 (hob:∀i,i<n→∀o,ops[i]?=some o→∀e u,R u→EvI ops a0 F o e u→o.guard=none∧gz P (fun v u'=>R u'∧G u u'∧F i v u') ((execOp e o).run P u))
 (E8:∀o,ops[n]?=some o→∀e u,R u→EvI ops a0 F o e u→o.guard=none∧gz P (L e u) ((execOp e o).run P u))
 (hend:∀x e u u',R u→(∀k,k<n→∀t,fI ops k=some t→x k=e (.tmp t)∧F k (x k) u)→L e u (x n) u'→Q .normal (mg ops x (n+1) a0) u'):
 ∀(m:Nat) (listed:Array Bool) (aa:Act) (u:World),listed.size=n+1→(listed.toList.filter (· == false)).length=m→listed.getD n true=false→R u→Tx ops a0 F listed aa u→wpAny P .any ops Q m listed aa u:=by
 have hev:∀ {listed:Array Bool}{aa:Act}{u:World}{o:Oper},Tx ops a0 F listed aa u→(∀e∈o.after,Region.binds .any e=true→listed.getD e.on false=true)→EvI ops a0 F o aa.eval u:=fun {listed aa u o} h hall =>
  ⟨fun v=>rfl,fun f=>rfl,fun t ht=>by
   rw[gF,gF,h.rest t (vJ ht)],
  fun j t hj ht=>by
   unfold Oy at hj
   obtain⟨e,he,hb⟩:=Array.any_eq_true'.1 hj
   simp only[Bool.and_eq_true,beq_iff_eq]at hb
   exact h.fact j t (by rw[←hb.2];exact hall e he hb.1) ht⟩
 have hput:∀ {aa:Act}{t:Tmp}{v:Value}{s:Tmp},t<aa.tmps.size→({ aa with tmps:=aa.tmps.setIfInBounds t v }:Act).eval (.tmp s)=if t=s then v else aa.eval (.tmp s):=fun {aa t v s} ht=>by
  rw[gF,gF]
  show (aa.tmps.setIfInBounds t v)[s]?.getD undef=_
  by_cases hts:t=s
  ·subst hts
   rw[if_pos rfl,Array.getElem?_setIfInBounds]
   simp[ht]
  ·rw[if_neg hts,Array.getElem?_setIfInBounds_ne hts]
 intro m
 induction m with
 | zero =>
   intro listed aa u hs hm hln
   exfalso
   have hlt:n<listed.size:=by omega
   have h1:listed[n]=false:=by simpa[hlt]using hln
   have h2:false∈listed.toList.filter (· == false):=List.mem_filter.2 ⟨by rw[←h1];exact Array.mem_toList_iff.2 (Array.getElem_mem hlt),rfl⟩
   have:=List.length_pos_of_mem h2
   omega
 | succ m ih =>
   intro listed aa u hs hm hln hR hI
   have hpre:∀j∈Region.ready .any ops listed,j<n→wpOp P ops Q j (wpAny P .any ops Q m (listed.setIfInBounds j true)) aa u:=by
    intro j hj hjn
    obtain⟨hj0,o,ho,hall⟩:=mem_ready.1 hj
    obtain⟨hgd,hup⟩:=hob j hjn o ho aa.eval u hR (hev hI hall)
    unfold wpOp
    rw[ho]
    show if Region.wanted o (yielded ops aa.tmps)=true then _ else _
    rw[if_pos (by simp[Region.wanted,hgd])]
    refine .inl (BN hup ?_)
    rintro v u' ⟨hR',hg,hF⟩
    have hjl:j<listed.size:=by omega
    refine ih _ _ u' (by simp[hs]) ?_ ?_ hR' ⟨fun k t hk ht =>?_,fun t ht =>?_,?_,?_⟩
    ·have hj1:listed[j]=false:=by simpa[hjl]using hj0
     have hsplit:listed.toList=listed.toList.take j++false::listed.toList.drop (j+1):=by
      have hj2:j<listed.toList.length:=by simpa using hjl
      have h3:listed.toList[j]=false:=by simpa using hj1
      rw[←h3,←List.drop_eq_getElem_cons hj2,List.take_append_drop]
     have hset:(listed.setIfInBounds j true).toList=listed.toList.take j++true::listed.toList.drop (j+1):=by
      rw[Array.toList_setIfInBounds,List.set_eq_take_append_cons_drop,if_pos (by simpa using hjl)]
     rw[hset]
     rw[hsplit]at hm
     simp only[List.filter_append,List.filter_cons,List.length_append]at hm ⊢
     simp at hm ⊢
     omega
    ·rw[getD_set_ne true omA]
     exact hln
    ·by_cases hkj:k=j
     ·subst hkj
      have hdk:o.dst=some t:=by have h:=ht;unfold fI at h;rw[ho]at h;exact h
      have htl:t<aa.tmps.size:=by rw[hI.size];exact hsz _ _ ht
      rw[hdk]
      show F k (Act.eval ({ aa with tmps:=aa.tmps.setIfInBounds t v }:Act) (.tmp t)) u'
      rw[hput htl,if_pos rfl]
      exact hF
     ·have hk':listed.getD k false=true:=by rwa [getD_set_ne false (Ne.symm hkj)]at hk
      have h1:=hG k _ u u' (hI.fact k t hk' ht) hR hg
      cases hd:o.dst with
      | none=>exact h1
      | some d =>
        have hdj:fI ops j=some d:=by unfold fI;rw[ho];exact hd
        have hdt:d≠t:=fun e=>hkj (IA hdst ht (by rw[hdj,e]))
        show F k (Act.eval ({ aa with tmps:=aa.tmps.setIfInBounds d v }:Act) (.tmp t)) u'
        rw[hput (by rw[hI.size];exact hsz _ _ hdj),if_neg hdt]
        exact h1
    ·cases hd:o.dst with
     | none=>exact hI.rest t ht
     | some d =>
       have hdj:fI ops j=some d:=by unfold fI;rw[ho];exact hd
       show (aa.tmps.setIfInBounds d v)[t]?=_
       rw[Array.getElem?_setIfInBounds_ne (fun e=>ht j (by rw[hdj,e]))]
       exact hI.rest t ht
    ·cases hd:o.dst with
     | none=>exact hI.size
     | some d=>simpa[Act.put]using hI.size
    ·cases hd:o.dst with
     | none=>exact hI.defers
     | some d=>exact hI.defers
   refine⟨fun h0 =>?_,fun j hj =>?_⟩
   ·exfalso
    have key:∀k,k≤n→(∀j,j<k→listed.getD j false=true) ∨ ∃j,j<k∧listed.getD j true=false ∧ ∀i,i<j→listed.getD i false=true:=by
     intro k
     induction k with
     | zero=>exact fun _ =>.inl fun j hj=>by omega
     | succ k ihk =>
       intro hk
       rcases ihk omA with h|⟨j,h1,h2⟩
       ·have hkl:k<listed.size:=by omega
        cases hb:listed[k]
        ·exact .inr ⟨k,by omega,by simp[hkl,hb],h⟩
        ·refine .inl fun j hj =>?_
         rcases Nat.lt_or_ge j k with h3|h3
         ·exact h j h3
         ·obtain rfl:j=k:=by omega
          simp[hkl,hb]
       ·exact .inr ⟨j,by omega,h2⟩
    obtain⟨j,hj,h1,h2⟩:∃j,j≤n∧listed.getD j true=false ∧ ∀i,i<j→listed.getD i false=true:=by
     rcases key n nlr with h|⟨j,h1,h2,h3⟩
     ·exact⟨n,Nat.le_refl _,hln,h⟩
     ·exact⟨j,by omega,h2,h3⟩
    have hjo:j<ops.size:=by omega
    have hr:j∈Region.ready .any ops listed:=mem_ready.2 ⟨h1,ops[j],by simp[hjo],fun e he hb=>h2 _ (H9 hlow (by simp[hjo]) he hb)⟩
    rw[h0]at hr
    cases hr
   ·by_cases hjn:j<n
    ·exact hpre j hj hjn
    ·obtain⟨hj0,o,ho,hall⟩:=mem_ready.1 hj
     have hjs:j<ops.size:=(Array.getElem?_eq_some_iff.1 ho).1
     obtain rfl:j=n:=by omega
     obtain⟨hgd,hup⟩:=E8 o ho aa.eval u hR (hev hI hall)
     have hlist:∀k,k<j→listed.getD k false=true:=fun k hk=>by
      have h1:=List.all_eq_true.1 hlast k (List.mem_range.2 hk)
      rw[ho]at h1
      obtain⟨e,he,hb⟩:=Array.any_eq_true'.1 h1
      simp only[Bool.and_eq_true,beq_iff_eq]at hb
      rw[←hb.2]
      exact hall e he hb.1
     have hnone:Region.ready .any ops (listed.setIfInBounds j true)=[]:=by
      refine List.eq_nil_iff_forall_not_mem.2 fun k hk =>?_
      obtain⟨h1,o',h2,_⟩:=mem_ready.1 hk
      have hks:k<ops.size:=(Array.getElem?_eq_some_iff.1 h2).1
      by_cases hkj:k=j
      ·subst hkj
       have:k<listed.size:=by omega
       simp[this]at h1
      ·rw[getD_set_ne true (Ne.symm hkj)]at h1
       have h3:=hlist k omA
       have:k<listed.size:=by omega
       simp[this]at h1 h3
       rw[h1]at h3
       cases h3
     unfold wpOp
     rw[ho]
     show if Region.wanted o (yielded ops aa.tmps)=true then _ else _
     rw[if_pos (by simp[Region.wanted,hgd])]
     refine .inl (BN hup ?_)
     intro v u' hL
     have hx:aa.put o.dst v=mg ops (fun k=>if k=j then v else match fI ops k with|some t=>aa.eval (.tmp t)|none=>undef) (j+1) a0:=by
      show _=(mg ops _ j a0).put (fI ops j) (if j=j then v else _)
      rw[if_pos rfl,xq (y:=fun k=>match fI ops k with|some t=>aa.eval (.tmp t)|none=>undef) (fun k hk=>by rw[if_neg omA])]
      have hdj:fI ops j=o.dst:=by unfold fI;rw[ho];rfl
      rw[hdj]
      have hsize:=(pV (ops:=ops) (fun k=>match fI ops k with|some t=>aa.eval (.tmp t)|none=>undef) a0 j)
      have hget:∀t,o.dst≠some t→aa.tmps[t]?=(mg ops (fun k=>match fI ops k with|some t=>aa.eval (.tmp t)|none=>undef) j a0).tmps[t]?:= fun t ht=>by
       by_cases h:∃k,k<j∧fI ops k=some t
       ·have h1:t<a0.tmps.size:=by obtain⟨k,_,hk⟩:=h;exact hsz _ _ hk
        refine Eq.trans ?_ (Cm (fun t=>aa.eval (.tmp t)) a0 t h1 j h).symm
        rw[gF]
        have h2:t<aa.tmps.size:=by rw[hI.size];exact h1
        simp[h2]
       ·rw[uw _ a0 t j (fun k hk e=>h ⟨k,hk,e⟩)]
        refine hI.rest t fun k hk =>?_
        by_cases hkj:k<j
        ·exact h ⟨k,hkj,hk⟩
        ·by_cases UW:k=j
         ·subst UW
          exact ht (by rw[←hdj];exact hk)
         ·unfold fI at hk
          rw[Array.getElem?_eq_none omA]at hk
          cases hk
      cases hd:o.dst with
      | none =>
        refine BJ (Array.ext_getElem? fun t=>hget t (by rw[hd];simp)) ?_
        show aa.defers=_
        rw[hI.defers]
        exact hsize.2.symm
      | some d =>
        refine BJ (Array.ext_getElem? fun t =>?_) ?_
        ·show (aa.tmps.setIfInBounds d v)[t]?=(Array.setIfInBounds _ d v)[t]?
         by_cases hdt:d=t
         ·subst hdt
          rw[Array.getElem?_setIfInBounds,Array.getElem?_setIfInBounds,hI.size,hsize.1]
          simp
         ·rw[Array.getElem?_setIfInBounds_ne hdt,Array.getElem?_setIfInBounds_ne hdt]
          exact hget t (by rw[hd];exact fun e=>hdt (Option.some.inj e))
        ·show aa.defers=Act.defers _
         rw[hI.defers]
         exact hsize.2.symm
     have hq:Q .normal (aa.put o.dst v) u':=by
      rw[hx]
      refine hend _ aa.eval u u' hR (fun k hk t ht =>?_) (by simpa using hL)
      have hxk:(if k=j then v else match fI ops k with|some t=>aa.eval (.tmp t)|none=>undef)=aa.eval (.tmp t):=by rw[if_neg omA,ht]
      show (if k=j then v else match fI ops k with|some t=>aa.eval (.tmp t)|none=>undef)=_∧F k (if k=j then v else match fI ops k with|some t=>aa.eval (.tmp t)|none=>undef) u
      rw[hxk]
      exact⟨rfl,hI.fact k t (hlist k hk) ht⟩
     cases m with
     | zero=>exact⟨hnone,hq⟩
     | succ m=>exact⟨fun _=>hq,by rw[hnone];simp⟩
theorem uY{id:Nat}{a0:Act}{w:World}(n:Nat)(R:World→Prop)(G:World→World→Prop)(L:(Operand→Value)→World→Value→World→Prop)(F:Nat→Value→World→Prop)
 (hm:P.follows .mixedOrders=true) (hn:ops.size=n+1) (hdst:Mh ops=true) (hlast:lastB ops n=true) (hlow:KD ops=true) (hsz:Gm ops a0.tmps.size=true)
 (hG:∀k v u u',F k v u→R u→G u u'→F k v u') (hR:R w.drew)
 (hob:∀i,i<n→∀o,ops[i]?=some o→∀e u,R u→EvI ops a0 F o e u→o.guard=none∧gz P (fun v u'=>R u'∧G u u'∧F i v u') ((execOp e o).run P u))
 (E8:∀o,ops[n]?=some o→∀e u,R u→EvI ops a0 F o e u→o.guard=none∧gz P (L e u) ((execOp e o).run P u))
 (hend:∀x e u u',R u→(∀k,k<n→∀t,fI ops k=some t→x k=e (.tmp t)∧F k (x k) u)→L e u (x n) u'→Q .normal (mg ops x (n+1) a0) u'):(Code.region id ops true).wp P Q a0 w:=by
 refine wp_region_any hm ?_
 have h:=MX (Q:=Q) (a0:=a0) (n:=n) hn hdst hlast hlow (fun k t h=>Em hsz h) hG hob E8 hend ops.size (Array.replicate ops.size false) a0 w.drew (by simp[hn]) spA (by simp[hn]) hR ⟨fun k t hk =>?_,fun t _=>rfl,rfl,rfl⟩
 ·exact h
 ·exfalso
  rcases Nat.lt_or_ge k ops.size with h1|h1
  ·simp[h1]at hk
  ·simp[h1]at hk
theorem uX{id:Nat}{a0:Act}{w:World}(n:Nat)(R:World→Prop)(G:World→World→Prop)(L:Value→World→Prop)(F:Nat→Value→World→Prop)
 (hm:P.follows .mixedOrders=true) (hn:ops.size=n+1) (hdst:Mh ops=true) (hlast:lastB ops n=true) (hlow:KD ops=true) (hsz:Gm ops a0.tmps.size=true)
 (hG:∀k v u u',F k v u→R u→G u u'→F k v u') (hR:R w.drew)
 (hob:∀i,i<n→∀o,ops[i]?=some o→∀e u,R u→EvI ops a0 F o e u→o.guard=none∧gz P (fun v u'=>R u'∧G u u'∧F i v u') ((execOp e o).run P u))
 (E8:∀o,ops[n]?=some o→∀e u,R u→EvI ops a0 F o e u→o.guard=none∧gz P L ((execOp e o).run P u))
 (hend:∀x u',L (x n) u'→Q .normal (mg ops x (n+1) a0) u'):(Code.region id ops true).wp P Q a0 w:=
 uY n R G (fun _ _ v u=>L v u) F hm hn hdst hlast hlow hsz hG hR hob E8 fun x _ _ u' _ _ hL=>hend x u' hL
theorem Hy{T:Array Value}{D:List Deferred}(x:Nat→Value)(n:Nat):∃X,mg ops x n ⟨T,D⟩=⟨X,D⟩∧X.size=T.size ∧ ∀t,AQ ops t=true→X[t]?=T[t]?:= by
 have h:=pV (ops:=ops) x ⟨T,D⟩ n
 refine⟨(mg ops x n ⟨T,D⟩).tmps,?_,h.1,fun t ht=>uw x ⟨T,D⟩ t n fun k _=>vJ ht k⟩
 exact BJ rfl h.2
theorem lJ{id:Nat}{T:Array Value}{D:List Deferred}{w:World}(n:Nat)(R:World→Prop)(G:World→World→Prop)(L:World→Prop)(F:Nat→Value→World→Prop)
 (hm:P.follows .mixedOrders=true) (hn:ops.size=n+1) (hdst:Mh ops=true) (hlast:lastB ops n=true) (hlow:KD ops=true) (hsz:Gm ops T.size=true)
 (hG:∀k v u u',F k v u→R u→G u u'→F k v u') (hR:R w.drew)
 (hob:∀i,i<n→∀o,ops[i]?=some o→∀e u,R u→EvI ops ⟨T,D⟩ F o e u→o.guard=none∧gz P (fun v u'=>R u'∧G u u'∧F i v u') ((execOp e o).run P u))
 (E8:∀o,ops[n]?=some o→∀e u,R u→EvI ops ⟨T,D⟩ F o e u→o.guard=none∧gz P (fun _ u'=>L u') ((execOp e o).run P u))
 (hend:∀X u',X.size=T.size→(∀t,AQ ops t=true→X[t]?=T[t]?)→L u'→Q .normal ⟨X,D⟩ u'):(Code.region id ops true).wp P Q ⟨T,D⟩ w:=by
 refine uX n R G (fun _ u=>L u) F hm hn hdst hlast hlow hsz hG hR hob E8 fun x u' hL =>?_
 obtain⟨X,hX,h1,h2⟩:=Hy (ops:=ops) (T:=T) (D:=D) x (n+1)
 rw[hX]
 exact hend X u' h1 h2 hL
end
inductive FK
 | ptr (a:Addr)
 | nat (n:Nat)
 | int
 | str
 | slc
 | arr (t:TypeId) (cs:Array Value)
 | pos (t:TypeId) (cs:Array Value)
 | agg (p:Array Value→Prop)
 | one (t:TypeId) (p:Array Value→Prop)
def FK.ok(lo:Nat):FK→Value→World→Prop
 | .ptr a,v,_=>v=.pointer (some a)
 | .nat n,v,_ =>∃z:Nat,z<n∧v=.int .i64 z
 | .int,v,_ =>∃z:Int,v=.int .i64 z
 | .str,v,_ =>∃s:ByteArray,s.size≤1000∧v=.string s
 | .slc,v,_ =>∃A n c,v=.slice A n c
 | .arr t cs,v,u =>∃B,lo≤B∧v=.slice (some ⟨B,0,none⟩) cs.size cs.size∧Blk u B t cs
 | .pos t cs,v,u =>∃B i,lo≤B∧i<cs.size∧v=.pointer (some ⟨B,i,none⟩)∧Blk u B t cs
 | .agg p,v,_ =>∃cs,p cs∧v=.agg cs
 | .one t p,v,u =>∃B cs,lo≤B∧p cs∧v=.slice (some ⟨B,0,none⟩) 1 1∧Blk u B t cs
theorem FK.grown{lo g:Nat}{f:FK}{v:Value}{u u':World}(h:f.ok lo v u)(hg:u.grownBy u' (some g))(hgl:g<lo):f.ok lo v u':=by
 cases f with
 | arr t cs=>obtain⟨B,h1,h2,h3⟩:=h;exact⟨B,h1,h2,h3.grown hg inA⟩
 | pos t cs=>obtain⟨B,i,h1,h2,h3,h4⟩:=h;exact⟨B,i,h1,h2,h3,h4.grown hg inA⟩
 | one t p=>obtain⟨B,cs,h1,h2,h3,h4⟩:=h;exact⟨B,cs,h1,h2,h3,h4.grown hg inA⟩
 | _=>exact h
def lX(lo:Nat)(l:List FK)(k:Nat)(v:Value)(u:World):Prop:=match l[k]? with
 | some f=>f.ok lo v u
 | none=>True
theorem lX.grown{lo g:Nat}{l:List FK}{k:Nat}{v:Value}{u u':World}(h:lX lo l k v u)(hg:u.grownBy u' (some g))(hgl:g<lo):lX lo l k v u':=by
 unfold lX at h ⊢
 cases hf:l[k]? with
 | some f=>rw[hf]at h;exact FK.grown h hg hgl
 | none=>trivial
open Go.RowKit Go
structure Af (g:Nat) (o:Oth):Prop where
 idx:∀a,o.iA=some a→a.block≠g
 skt:∀a,o.sA=some a→a.block≠g
 cch:∀a,o.cA=some a→a.block≠g
 rel:∀a,o.rA=some a→a.block≠g
 str:∀a,o.tA=some a→a.block≠g
 bak:∀a,o.bA=some a→a.block≠g
theorem lU{g:Nat}{A:Option Addr}(h:∀a,A=some a→a.block≠g):∀a,A=some a→some a.block≠some g:=fun a ha e=>h a ha eC
theorem bL.jh{w w':World}{o:Oth}{d:Nat}(h:bL w w.heap.size o)(hg:w.grownBy w' (some d))(hn:Af d o):bL w' w'.heap.size o:=
 ⟨h.idx.grown hg (lU hn.idx),h.skt.grown hg (lU hn.skt),h.cch.grown hg (lU hn.cch),h.rel.grown hg (lU hn.rel),h.str.grown hg (lU hn.str),h.bak.grown hg (lU hn.bak)⟩
def GH(w:World)(g b:Nat)(e:Ending)(w':World):Prop:= ∃A c ts o,e=.returned (.agg #[.slice A ts.length c,.slice o.vA 0 o.vc,.slice o.iA o.idx.length o.ic,.slice o.sA o.skt.length o.sc,.slice o.cA o.cch.length o.cc,.slice o.rA o.rel.length o.rc,.slice o.tA o.str.length o.tc,.slice o.bA o.bak.length o.bc])∧aJ w' w'.heap.size A ts∧nS g A ts∧aI ts∧bL w' w'.heap.size o∧Af g o∧dN o∧gV o∧aO w' g b∧w.grownBy w' (some g)
structure SpM (w u:World) (p g b b1 b2 cT cC r:Nat) (ts:List Tab) (t0:Tab) (af:List Col) (C:Array Value):Prop where
 tab:ax u w.heap.size 77 Tab.cells 4 (.slice (some ⟨b1,0,none⟩) ts.length cT) (ts.set r t0)
 col:ax u w.heap.size 79 Col.cells 7 (.slice (some ⟨b2,0,none⟩) af.length cC) af
 cat:Blk u p 39 C
 tape:aO u g b
 grown:w.grownBy u (some g)
theorem OA:77≠79:=by decide
theorem qC:77≠39:=by decide
theorem nU:79≠39:=by decide
section
variable {w u v:World}{p g b b1 b2 cT cC r:Nat}{ts:List Tab}{t0:Tab}{af:List Col}{C:Array Value}
theorem SpM.lo1(h:SpM w u p g b b1 b2 cT cC r ts t0 af C):w.heap.size≤b1:=h.tab.row b1 rfl
theorem SpM.lo2(h:SpM w u p g b b1 b2 cT cC r ts t0 af C):w.heap.size≤b2:=h.col.row b2 rfl
theorem SpM.ne(h:SpM w u p g b b1 b2 cT cC r ts t0 af C):b1≠b2:=fun e=>h.tab.fD h.col OA b1 rfl (by rw[e];rfl)
theorem SpM.n1(h:SpM w u p g b b1 b2 cT cC r ts t0 af C):b1≠p:=h.tab.bT h.cat qC b1 rfl
theorem SpM.n2(h:SpM w u p g b b1 b2 cT cC r ts t0 af C):b2≠p:=h.col.bT h.cat nU b2 rfl
theorem SpM.next(h:SpM w u p g b b1 b2 cT cC r ts t0 af C)(hg:u.grownBy v (some g))(hk:aO v g b)(hl:g<w.heap.size)(hp:p≠g):SpM w v p g b b1 b2 cT cC r ts t0 af C:=
 ⟨h.tab.grown hg hl,h.col.grown hg hl,h.cat.grown hg (fun e=>hp eC),hk,az h.grown hg⟩
theorem SpM.below(h:SpM w u p g b b1 b2 cT cC r ts t0 af C)(hb:Below u.heap.size u v):SpM w v p g b b1 b2 cT cC r ts t0 af C:=
 ⟨h.tab.below hb nlr,h.col.below hb nlr,h.cat.below hb h.cat.lt,h.tape.below hb,az h.grown (aN hb _)⟩
theorem SpM.alloc(h:SpM w u p g b b1 b2 cT cC r ts t0 af C)(ob:Obj):SpM w (u.alloc ob) p g b b1 b2 cT cC r ts t0 af C:=h.below (brf.alloc nlr ob)
theorem SpM.Hg(h:SpM w u p g b b1 b2 cT cC r ts t0 af C)(hr:r<ts.length)(hl:g<w.heap.size)(hbl:b<w.heap.size)(t:Tab){j o:Nat}{x:Value}(hj:j<4)(ho:o=r*4+j)(hx:Tab.cells t=(Tab.cells t0).set j x):
 SpM w (u.setCell ⟨b1,o,none⟩ x) p g b b1 b2 cT cC r ts t af C:=by
 have hb1:=h.lo1
 have hn:=h.ne
 have hp:=h.n1
 have h1:=h.tab.dJ gy spA (i:=r) (by simpa using hr) t hj ho (by simpa using hx)
 rw[List.set_set]at h1
 exact⟨h1,h.col.far (fun q hq e=>by injection hq with hq;exact hn (by simpa using(hq.trans e).symm)) _,h.cat.far (fun e=>hp e.symm) _,h.tape.far (by show g≠b1;omega) (by show b≠b1;omega) _,aj h.grown (.inr hb1) _⟩
theorem SpM.Cc(h:SpM w u p g b b1 b2 cT cC r ts t0 af C)(hl:g<w.heap.size)(hbl:b<w.heap.size){q:Nat}(hq:q<af.length)(y:Col){j o:Nat}{x:Value}(hj:j<7)(ho:o=q*7+j)(hx:Col.cells y=(Col.cells af[q]).set j x):
 SpM w (u.setCell ⟨b2,o,none⟩ x) p g b b1 b2 cT cC r ts t0 (af.set q y) C:=by
 have hb2:=h.lo2
 have hn:=h.ne
 have hp:=h.n2
 have h1:=h.col.dJ dS rfl hq y hj ho hx
 exact⟨h.tab.far (fun q hq e=>by injection hq with hq;exact hn (by simpa using hq.trans e)) _,by simpa using h1,h.cat.far (fun e=>hp e.symm) _,h.tape.far (by show g≠b2;omega) (by show b≠b2;omega) _,aj h.grown (.inr hb2) _⟩
theorem SpM.Uf(h:SpM w u p g b b1 b2 cT cC r ts t0 af C)(hpg:p≠g)(hpb:p≠b)(hp:w.heap.size≤p){j:Nat}{x:Value}:SpM w (u.setCell ⟨p,j,none⟩ x) p g b b1 b2 cT cC r ts t0 af (C.setIfInBounds j x):=by
 have h1:=h.n1
 have h2:=h.n2
 exact⟨h.tab.far (fun q hq e=>by injection hq with hq;exact h1 (hq.trans e)) _,h.col.far (fun q hq e=>by injection hq with hq;exact h2 (hq.trans e)) _,h.cat.bM _ _,h.tape.far (by show g≠p;omega) (by show b≠p;omega) _,aj h.grown (.inr hp) _⟩
theorem SpM.nO(h:SpM w u p g b b1 b2 cT cC r ts t0 af C)(hr:r<ts.length){j:Nat}{x:Value}(hx:(Tab.cells t0)[j]?=some x):u.cell? ⟨b1,r*4+j,none⟩=some x:=h.tab.gI gy spA (i:=r) (by simpa using hr) (by simpa using hx)
theorem SpM.pK(h:SpM w u p g b b1 b2 cT cC r ts t0 af C){q:Nat}(hq:q<af.length){j:Nat}{x:Value}(hx:(Col.cells af[q])[j]?=some x):u.cell? ⟨b2,q*7+j,none⟩=some x:=h.col.pE dS hq hx
theorem SpM.tH(h:SpM w u p g b b1 b2 cT cC r ts t0 af C)(j:Nat):u.frozen? ⟨b1,j,none⟩=false:=h.tab.kg spA j
theorem SpM.wu(h:SpM w u p g b b1 b2 cT cC r ts t0 af C)(j:Nat):u.frozen? ⟨b2,j,none⟩=false:=h.col.frz j
theorem Dh{α:Type}{enc:α→List Value}:∀ {l:List α}{i:Nat}{x y:α},enc x=enc y→(l.set i x).flatMap enc=(l.set i y).flatMap enc
 | [],_,_,_,_=>rfl
 | a::l,0,x,y,h=>by simp[List.flatMap_cons,h]
 | a::l,i+1,x,y,h=>by simp only[List.set_cons_succ,List.flatMap_cons,Dh h]
theorem SpM.fin{o:Oth}{e:Ending}{A:Option Addr}(h:SpM w u p g b b1 b2 cT cC r ts t0 af C)(hT:aJ w w.heap.size A ts)(hne:nS g A ts)(hs:aI ts)(hr:r<ts.length)(hl:g<w.heap.size)
 (cs:List Col) (hcs:ah u u.heap.size Col.cells 7 t0.A cs) (hcl:t0.af.length=cs.length) (hcap:cs.length≤t0.cap) (hA:∀a,t0.A=some a→a.block≠g) (hnm:t0.name.size≤1000000) (hc6:cs.length≤1000000)
 (hc:∀x∈cs,jR x∧((∃y∈ts[r].af,x.A=y.A∧x.own=y.own)∨(ah u u.heap.size intCells 1 x.A x.own ∧ ∀a,x.A=some a→a.block≠g)))
 (ho:bL u u.heap.size o) (hon:Af g o) (hso:dN o) (h16:gV o)
 (he:e=.returned (.agg #[.slice (some ⟨b1,0,none⟩) ts.length cT,.slice o.vA 0 o.vc,.slice o.iA o.idx.length o.ic,.slice o.sA o.skt.length o.sc,.slice o.cA o.cch.length o.cc,.slice o.rA o.rel.length o.rc,.slice o.tA o.str.length o.tc,.slice o.bA o.bak.length o.bc])):
 GH w g b e u:=by
 subst he
 have hTu:aJ u u.heap.size A ts:=hT.jh h.grown hne
 have hb1:=h.lo1
 let t1:Tab:=⟨t0.name,t0.A,t0.cap,cs,t0.erase,t0.eD⟩
 have henc:Tab.cells t0=Tab.cells t1:=by simp[Tab.cells,t1,hcl]
 have hlen:(ts.set r t1).length=ts.length:=by simp
 have hmem:∀t∈ts.set r t1,t∈ts∨t=t1:=fun t ht=>List.mem_or_eq_of_mem_set ht
 have hS:ah u u.heap.size Tab.cells 4 (some ⟨b1,0,none⟩) (ts.set r t1):=by
  have h1:ax u w.heap.size 77 Tab.cells 4 (.slice (some ⟨b1,0,none⟩) (ts.set r t1).length cT) (ts.set r t1):=by
   have h2:=h.tab
   unfold ax at h2 ⊢
   rw[←Dh henc,hlen]
   rwa [List.length_set]at h2
  exact gQ gy h1
 refine⟨some ⟨b1,0,none⟩,cT,ts.set r t1,o,by rw[hlen],⟨hS,fun t ht =>?_⟩,⟨fun a ha =>?_,fun t ht =>?_⟩,⟨by rw[hlen];exact hs.len,fun t ht =>?_⟩,ho,hon,hso,h16,h.tape,h.grown⟩
 ·rcases hmem t ht with h1|rfl
  ·exact hTu.2 t h1
  ·refine⟨hcs,fun x hx =>?_⟩
   rcases(hc x hx).2 with ⟨y,hy,h1,h2⟩|h1
   ·rw[h1,h2]
    exact(hTu.2 _ (lgm hr)).2 y hy
   ·exact h1.1
 ·injection ha with ha
  subst ha
  show b1≠g
  omega
 ·rcases hmem t ht with h1|rfl
  ·exact hne.2 t h1
  ·refine⟨hA,fun x hx =>?_⟩
   rcases(hc x hx).2 with ⟨y,hy,h1,h2⟩|h1
   ·rw[h1]
    exact(hne.2 _ (lgm hr)).2 y hy
   ·exact h1.2
 ·rcases hmem t ht with h1|rfl
  ·exact hs.tabs t h1
  ·exact⟨hnm,hc6,hcap,fun x hx=>(hc x hx).1⟩
end
open Go.RowKit Go
abbrev xC(vA:Option Addr)(vc:Nat):Oth:=⟨vA,vc,none,0,[],none,0,[],none,0,[],none,0,[],none,0,[],none,0,[]⟩
structure GL (lo:Nat) (o:Oth):Prop where
 idx:∀a,o.iA=some a→lo≤a.block
 skt:∀a,o.sA=some a→lo≤a.block
 cch:∀a,o.cA=some a→lo≤a.block
 rel:∀a,o.rA=some a→lo≤a.block
 str:∀a,o.tA=some a→lo≤a.block
 bak:∀a,o.bA=some a→lo≤a.block
theorem GL.ne{lo g:Nat}{o:Oth}(h:GL lo o)(hg:g<lo):Af g o:=
 ⟨fun a ha=>by(have:=h.idx a ha;omega),fun a ha=>by(have:=h.skt a ha;omega),fun a ha=>by(have:=h.cch a ha;omega),fun a ha=>by(have:=h.rel a ha;omega),fun a ha=>by(have:=h.str a ha;omega),fun a ha=>by(have:=h.bak a ha;omega)⟩
theorem bL.far{u:World}{o:Oth}{p:Addr}(h:bL u u.heap.size o)(hn:Af p.block o)(x:Value):bL (u.setCell p x) (u.setCell p x).heap.size o:=by
 have hz:(u.setCell p x).heap.size=u.heap.size:=by simp
 rw[hz]
 exact⟨h.idx.far (fun a ha e=>hn.idx a ha e) _,h.skt.far (fun a ha e=>hn.skt a ha e) _,h.cch.far (fun a ha e=>hn.cch a ha e) _,h.rel.far (fun a ha e=>hn.rel a ha e) _,h.str.far (fun a ha e=>hn.str a ha e) _,h.bak.far (fun a ha e=>hn.bak a ha e) _⟩
structure SpO (w u:World) (g b b1 b2 cT cC r:Nat) (ts:List Tab) (t0:Tab) (af:List Col) (o:Oth):Prop where
 mem:SpM w u w.heap.size g b b1 b2 cT cC r ts t0 af #[.slice (some ⟨b1,0,none⟩) ts.length cT,.slice o.vA 0 o.vc,.slice o.iA o.idx.length o.ic,.slice o.sA o.skt.length o.sc,.slice o.cA o.cch.length o.cc,.slice o.rA o.rel.length o.rc,.slice o.tA o.str.length o.tc,.slice o.bA o.bak.length o.bc]
 res:Blk u (w.heap.size+1) 39 #[.slice none 0 0,.slice none 0 0,.slice none 0 0,.slice none 0 0,.slice none 0 0,.slice none 0 0,.slice none 0 0,.slice none 0 0]
 inw:bL u u.heap.size o
 up:GL (w.heap.size+2) o
 bZ:dN o
section
variable {w u v:World}{g b b1 b2 cT cC r:Nat}{ts:List Tab}{t0:Tab}{af:List Col}{o:Oth}{vA:Option Addr}{vc:Nat}
theorem SpO.nil(h:SpM w u w.heap.size g b b1 b2 cT cC r ts t0 af #[.slice (some ⟨b1,0,none⟩) ts.length cT,.slice vA 0 vc,.slice none 0 0,.slice none 0 0,.slice none 0 0,.slice none 0 0,.slice none 0 0,.slice none 0 0])
 (hQ:Blk u (w.heap.size+1) 39 #[.slice none 0 0,.slice none 0 0,.slice none 0 0,.slice none 0 0,.slice none 0 0,.slice none 0 0,.slice none 0 0,.slice none 0 0]):SpO w u g b b1 b2 cT cC r ts t0 af (xC vA vc):=
 ⟨h,hQ,⟨ah.nil,ah.nil,ah.nil,ah.nil,ah.nil,ah.nil⟩,⟨fun a h=>(by cases h),fun a h=>(by cases h),fun a h=>(by cases h),fun a h=>(by cases h),fun a h=>(by cases h),fun a h=>(by cases h)⟩,
  ⟨Nat.zero_le _,Nat.zero_le _,Nat.zero_le _,Nat.zero_le _,Nat.zero_le _,Nat.zero_le _,fun x hx=>eE,fun x hx=>eE,fun x hx=>eE,fun x hx=>eE,fun x hx=>eE⟩⟩
theorem SpO.call(h:SpO w u g b b1 b2 cT cC r ts t0 af o)(hgl:g<w.heap.size)(hg:u.grownBy v (some g))(hk:aO v g b):SpO w v g b b1 b2 cT cC r ts t0 af o:=
 ⟨h.mem.next hg hk hgl omA,h.res.grown hg inA,h.inw.jh hg (h.up.ne omA),h.up,h.bZ⟩
theorem SpO.below(h:SpO w u g b b1 b2 cT cC r ts t0 af o)(hb:Below u.heap.size u v):SpO w v g b b1 b2 cT cC r ts t0 af o:=
 ⟨h.mem.below hb,h.res.below hb h.res.lt,h.inw.next hb,h.up,h.bZ⟩
theorem SpO.alloc(h:SpO w u g b b1 b2 cT cC r ts t0 af o)(ob:Obj):SpO w (u.alloc ob) g b b1 b2 cT cC r ts t0 af o:=h.below (brf.alloc nlr ob)
theorem SpO.put(h:SpO w u g b b1 b2 cT cC r ts t0 af o)(hgl:g<w.heap.size)(hbl:b<w.heap.size){j:Nat}{x:Value}{o':Oth}
 (he:(#[.slice (some ⟨b1,0,none⟩) ts.length cT,.slice o.vA 0 o.vc,.slice o.iA o.idx.length o.ic,.slice o.sA o.skt.length o.sc,.slice o.cA o.cch.length o.cc,.slice o.rA o.rel.length o.rc,.slice o.tA o.str.length o.tc,.slice o.bA o.bak.length o.bc]:Array Value).setIfInBounds j x=#[.slice (some ⟨b1,0,none⟩) ts.length cT,.slice o'.vA 0 o'.vc,.slice o'.iA o'.idx.length o'.ic,.slice o'.sA o'.skt.length o'.sc,.slice o'.cA o'.cch.length o'.cc,.slice o'.rA o'.rel.length o'.rc,.slice o'.tA o'.str.length o'.tc,.slice o'.bA o'.bak.length o'.bc])
 (hin:bL u u.heap.size o') (hup:GL (w.heap.size+2) o') (hs:dN o'):SpO w (u.setCell ⟨w.heap.size,j,none⟩ x) g b b1 b2 cT cC r ts t0 af o':=
 ⟨by have h1:=h.mem.Uf (j:=j) (x:=x) omA omA nlr;rwa [he]at h1,h.res.far (by show w.heap.size+1≠w.heap.size;omega) _,hin.far (hup.ne (by show w.heap.size<_;omega)) _,hup,hs⟩
theorem SpM.past{p q:Nat}{C CQ:Array Value}(h:SpM w u p g b b1 b2 cT cC r ts t0 af C)(hg:u.grownBy v (some q))(hq:w.heap.size≤q)(hQ:Blk u q 39 CQ)(hpq:p≠q)(hgl:g<w.heap.size)(hbl:b<w.heap.size):SpM w v p g b b1 b2 cT cC r ts t0 af C:=
 ⟨h.tab.kept hg (fun q' h' e=>h.tab.bT hQ qC q' h' eC),h.col.kept hg (fun q' h' e=>h.col.bT hQ nU q' h' eC),h.cat.grown hg (fun e=>hpq eC),h.tape.grown hg omA omA,gu h.grown hg inB⟩
end
def jm(w:World)(g b b1 cT r:Nat)(ts:List Tab)(u:World):Prop:= ∃b2 cC t0 af o,SpO w u g b b1 b2 cT cC r ts t0 af o∧gV o∧t0.name.size≤1000000 ∧
 ∃cs,cs.length≤1000000∧ah u u.heap.size Col.cells 7 t0.A cs∧t0.af.length=cs.length∧cs.length≤t0.cap∧(∀a,t0.A=some a→a.block≠g∧a.block≠w.heap.size+1) ∧
  ∀x∈cs,jR x∧((∃h:r<ts.length,∃y∈ts[r].af,x.A=y.A∧x.own=y.own)∨(ah u u.heap.size intCells 1 x.A x.own ∧ ∀a,x.A=some a→a.block≠g∧a.block≠w.heap.size+1))
theorem jG(vA:Option Addr)(vc:Nat):gV (xC vA vc):=⟨Nat.zero_le _,Nat.zero_le _,Nat.zero_le _,Nat.zero_le _,Nat.zero_le _,Nat.zero_le _,fun _=>⟨rfl,rfl⟩⟩
section
variable {w u v:World}{g b b1 b2 cT cC r:Nat}{ts:List Tab}{t0:Tab}{af:List Col}{o:Oth}
theorem jm.of(h:SpO w u g b b1 b2 cT cC r ts t0 af o)(h16:gV o)(hgl:g<w.heap.size)
 (hA:t0.A=some ⟨b2,0,none⟩) (hcap:t0.cap=cC) (hl:t0.af.length=af.length) (hn:t0.name.size≤1000000) (hc6:af.length≤1000000)
 (hx:∀x∈af,jR x∧((∃h:r<ts.length,∃y∈ts[r].af,x.A=y.A∧x.own=y.own)∨(ah u u.heap.size intCells 1 x.A x.own ∧ ∀a,x.A=some a→a.block≠g∧a.block≠w.heap.size+1))):jm w g b b1 cT r ts u:=by
 have hb2:=h.mem.lo2
 have hne:=h.mem.col.bT h.res nU b2 rfl
 exact⟨b2,cC,t0,af,o,h,h16,hn,af,hc6,by rw[hA];exact gQ dS h.mem.col,hl,by rw[hcap];exact sF h.mem.col,fun a ha=>by rw[hA]at ha;injection ha with ha;subst ha;exact⟨by show b2≠g;omega,hne⟩,hx⟩
end
theorem uP{w u:World}{g r:Nat}{ts:List Tab}(hs:aI ts)(hr:r<ts.length):∀x∈ts[r].af,jR x∧((∃h:r<ts.length,∃y∈ts[r].af,x.A=y.A∧x.own=y.own)∨(ah u u.heap.size intCells 1 x.A x.own ∧ ∀a,x.A=some a→a.block≠g∧a.block≠w.heap.size+1)):=
 fun x hx=>⟨(hs.tabs _ (lgm hr)).af x hx,.inl ⟨hr,x,hx,rfl,rfl⟩⟩
theorem Mj{w u:World}{g r:Nat}{ts:List Tab}(hs:aI ts)(hr:r<ts.length){q:Nat}{y:Col}(hy:jR y∧((∃h:r<ts.length,∃z∈ts[r].af,y.A=z.A∧y.own=z.own)∨(ah u u.heap.size intCells 1 y.A y.own ∧ ∀a,y.A=some a→a.block≠g∧a.block≠w.heap.size+1))):
 ∀x∈ts[r].af.set q y,jR x∧((∃h:r<ts.length,∃y∈ts[r].af,x.A=y.A∧x.own=y.own)∨(ah u u.heap.size intCells 1 x.A x.own ∧ ∀a,x.A=some a→a.block≠g∧a.block≠w.heap.size+1)):=fun x hx=>by
 rcases List.mem_or_eq_of_mem_set hx with h|rfl
 ·exact uP hs hr x h
 ·exact hy
end Go.Proofs.YtebippoohpnjkaaGreat
