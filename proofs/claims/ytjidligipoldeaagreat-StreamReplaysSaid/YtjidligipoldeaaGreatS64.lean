/-
  Contracts and plain laws of this seat, part 64.
-/
import Derived.Test.YtjidligipoldeaaGreatS65
set_option linter.unusedVariables false
set_option linter.unusedSimpArgs false
set_option maxRecDepth 100000
set_option maxHeartbeats 16000000
namespace Go.Proofs.YtjidligipoldeaaGreat
open Go.RowKit Go
section
variable {t t':List aJ}{ky:Val}
theorem aV.Qa(h:aV t){i j:Nat}(hi:i<t.length)(hj:j<t.length)(hne:i≠j):aA t[i]≠aA t[j]:=fun e=>by
 rcases Nat.lt_or_gt_of_ne hne with h1|h1
 ·have h2:=List.pairwise_iff_getElem.1 h.asc i j hi hj h1
  rw[e,bF.refl]at h2
  omega
 ·have h2:=List.pairwise_iff_getElem.1 h.asc j i hj hi h1
  rw[e,bF.refl]at h2
  omega
theorem aV.uniq(h:aV t){a b:aJ}(ha:a∈t)(hb:b∈t)(he:aA a=aA b):a=b:=by
 obtain⟨i,hi,rfl⟩:=List.getElem_of_mem ha
 obtain⟨j,hj,rfl⟩:=List.getElem_of_mem hb
 by_cases e:i=j
 ·subst e;rfl
 ·exact absurd he (h.Qa hi hj e)
theorem aV.ext(h:aV t)(h':aV t')(hm:∀r,r∈t↔r∈t'):t=t':=by
 have go:∀(t t':List aJ),t.Pairwise (fun a b=>aT (aA a) (aA b)<0)→t'.Pairwise (fun a b=>aT (aA a) (aA b)<0)→(∀r,r∈t↔r∈t')→t=t':=by
  intro t
  induction t with
  | nil =>
    intro t' _ _ hm
    cases t' with
    | nil=>rfl
    | cons b l'=>exact absurd ((hm b).2 spA) spA
  | cons a l ih =>
    intro t' h h' hm
    cases t' with
    | nil=>exact absurd ((hm a).1 spA) spA
    | cons b l' =>
      obtain⟨ha,hl⟩:=List.pairwise_cons.1 h
      obtain⟨hb,hl'⟩:=List.pairwise_cons.1 h'
      have hab:a=b:=by
       rcases List.mem_cons.1 ((hm a).1 spA) with h1|h1
       ·exact h1
       rcases List.mem_cons.1 ((hm b).2 spA) with h2|h2
       ·exact h2.symm
       have h3:=hb a h1
       have h4:=ha b h2
       have:=bF.mX (aA a) (aA b)
       omega
      subst hab
      rw[ih l' hl hl' fun r =>?_]
      have h1:=hm r
      constructor
      ·intro hr
       rcases List.mem_cons.1 (h1.1 (List.mem_cons_of_mem _ hr)) with rfl|h2
       ·have:=ha r hr
        rw[bF.refl]at this
        omega
       ·exact h2
      ·intro hr
       rcases List.mem_cons.1 (h1.2 (List.mem_cons_of_mem _ hr)) with rfl|h2
       ·have:=hb r hr
        rw[bF.refl]at this
        omega
       ·exact h2
 exact go t t' h.asc h'.asc hm
theorem Li{i:Nat}{r:aJ}:r∈ik t i ↔ ∃j,∃h:j<t.length,j≠i∧t[j]=r:=by
 unfold ik
 rw[List.mem_append,List.mem_iff_getElem,List.mem_iff_getElem]
 constructor
 ·rintro(⟨j,hj,rfl⟩|⟨j,hj,rfl⟩)
  ·rw[List.length_take]at hj
   exact⟨j,by omega,by omega,by rw[List.getElem_take]⟩
  ·rw[List.length_drop]at hj
   exact⟨i+1+j,by omega,by omega,by rw[List.getElem_drop]⟩
 ·rintro⟨j,hj,hne,rfl⟩
  rcases Nat.lt_or_gt_of_ne hne with h|h
  ·exact .inl ⟨j,by rw[List.length_take];omega,by rw[List.getElem_take]⟩
  ·refine .inr ⟨j-(i+1),by rw[List.length_drop];omega,?_⟩
   rw[List.getElem_drop]
   congr 1
   omega
theorem aV.wG(h:aV t){i:Nat}(hi:i<t.length)(hk:aA t[i]=ky)(r:aJ):r∈ik t i↔r∈t∧aA r≠ky:=by
 rw[Li]
 constructor
 ·rintro⟨j,hj,hne,rfl⟩
  exact⟨lgm hj,by rw[←hk];exact h.Qa hj hi hne⟩
 ·rintro⟨hr,hne⟩
  obtain⟨j,hj,rfl⟩:=List.getElem_of_mem hr
  exact⟨j,hj,fun e=>by subst e;exact hne hk,rfl⟩
theorem aV.mem_set(h:aV t){i:Nat}(hi:i<t.length)(hk:aA t[i]=ky)(y r:aJ):r∈t.set i y↔r=y∨(r∈t∧aA r≠ky):=by
 rw[←h.wG hi hk,xu hi,List.mem_append,List.mem_cons]
 unfold ik
 rw[List.mem_append]
 constructor
 ·rintro(h1|h1|h1)
  ·exact .inr (.inl h1)
  ·exact .inl h1
  ·exact .inr (.inr h1)
 ·rintro(h1|h1|h1)
  ·exact .inr (.inl h1)
  ·exact .inl h1
  ·exact .inr (.inr h1)
theorem aV.found(h:aV t)(hv:bK ky=true):(di t ky=true ∧ ∃hi:cK t ky<t.length,aA t[cK t ky]=ky)∨(di t ky=false ∧ ∀r∈t,aA r≠ky):=by
 cases hf:di t ky with
 | true =>
   left
   obtain⟨hi,hc⟩:=(iP h hv rfl).1 hf
   exact⟨rfl,hi,(iQ hv (h.val _ (lgm hi)) hc).symm⟩
 | false =>
   right
   refine⟨rfl,fun r hr e =>?_⟩
   obtain⟨j,hj,rfl⟩:=List.getElem_of_mem hr
   have hp:cK t ky=j:=by
    refine pV (Nat.le_of_lt hj) (fun i hi hij =>?_) (fun _ =>?_)
    ·have h2:=List.pairwise_iff_getElem.1 h.asc i j hi hj hij
     rw[e]at h2
     have:=bF.mX (aA t[i]) ky
     omega
    ·rw[e,bF.refl]
     exact Int.le_refl 0
   have:=(iP h hv hp).2 ⟨hj,by rw[e,bF.refl]⟩
   rw[hf]at this
   cases this
end
def AQ(r:aJ)(x:Chg):aJ:=(r.1.set x.column.toNat x.val,r.2.1.set x.column.toNat x.seq,r.2.2)
section
variable {t:List aJ}{x:Chg}{r:aJ}
theorem eB(h:aV t)(hv:bK (keyOf x)=true)(hkk:(keyOf x).kind≠0)(h1:x.kind=1)(hfit:(∃r∈t,aA r=keyOf x)∨t.length<64):r∈bB t x↔r=fA x∨(r∈t∧aA r≠keyOf x):=by
 rcases h.found hv with ⟨hf,hi,hk⟩|⟨hf,hno⟩
 ·rw[mg h h1 hv hkk hf,h.mem_set hi hk]
 ·have hl:t.length<64:=by
   rcases hfit with ⟨r0,hr0,he⟩|hl
   ·exact absurd he (hno r0 hr0)
   ·exact hl
  rw[mh h h1 hv hf hl,List.mem_append,List.mem_cons]
  constructor
  ·rintro(h2|h2|h2)
   ·have:=List.mem_of_mem_take h2
    exact .inr ⟨this,hno r this⟩
   ·exact .inl h2
   ·have:=List.mem_of_mem_drop h2
    exact .inr ⟨this,hno r this⟩
  ·rintro(h2|⟨h2,_⟩)
   ·exact .inr (.inl h2)
   ·rw[←List.take_append_drop (cK t (keyOf x)) t,List.mem_append]at h2
    rcases h2 with h2|h2
    ·exact .inl h2
    ·exact .inr (.inr h2)
theorem kg(h:aV t)(hv:bK (keyOf x)=true)(hkk:(keyOf x).kind≠0)(h3:x.kind=3):r∈bB t x↔r∈t∧aA r≠keyOf x:=by
 rcases h.found hv with ⟨hf,hi,hk⟩|⟨hf,hno⟩
 ·rw[nK h h3 hv hkk hf,h.wG hi hk]
 ·rw[iB h omA hv hf]
  exact⟨fun hr=>⟨hr,hno r hr⟩,fun hr=>hr.1⟩
theorem j6(h:aV t)(hv:bK (keyOf x)=true)(hkk:(keyOf x).kind≠0)(h2:x.kind=2):r∈bB t x↔(r∈t∧aA r≠keyOf x) ∨ ∃r0∈t,aA r0=keyOf x∧r=AQ r0 x:=by
 rcases h.found hv with ⟨hf,hi,hk⟩|⟨hf,hno⟩
 ·have e:qm t (cK t (keyOf x)) x=t.set (cK t (keyOf x)) (AQ t[cK t (keyOf x)] x):=by
   unfold qm
   rw[List.getElem?_eq_getElem hi]
   rfl
  rw[nJ h h2 hv hkk hf,e,h.mem_set hi hk]
  constructor
  ·rintro(h4|h4)
   ·exact .inr ⟨_,lgm hi,hk,h4⟩
   ·exact .inl h4
  ·rintro(h4|⟨r0,hr0,hk0,h4⟩)
   ·exact .inr h4
   ·have:=h.uniq hr0 (lgm hi) (hk0.trans hk.symm)
    rw[this]at h4
    exact .inl h4
 ·rw[iB h omA hv hf]
  constructor
  ·exact fun hr =>.inl ⟨hr,hno r hr⟩
  ·rintro(h4|⟨r0,hr0,hk0,_⟩)
   ·exact h4.1
   ·exact absurd hk0 (hno r0 hr0)
theorem Ag(h:aV t)(hv:bK (keyOf x)=true)(hno:∀r∈t,aA r≠keyOf x)(hc:x.kind≠1 ∨ ¬ t.length<64):bB t x=t:=by
 have hf:di t (keyOf x)=false:=by
  rcases h.found hv with ⟨_,hi,hk⟩|⟨hf,_⟩
  ·exact absurd hk (hno _ (lgm hi))
  ·exact hf
 by_cases h1:x.kind=1
 ·rcases hc with hc|hc
  ·exact absurd h1 hc
  ·exact iZ h h1 hv hf omA
 ·exact iB h h1 hv hf
end
structure uk (a:fu) (t:List aJ):Prop where
 len:a.2=t.length
 has:∀key s,a.1 key=some s ↔ ∃r∈t,aA r=key∧dG r=s
theorem uk.zero:uk rG []:=⟨rfl,fun key s=>by simp[rG]⟩
theorem uk.lost{a:fu}{t:List aJ}(h:uk a t){key:Val}:a.1 key=none ↔ ∀r∈t,aA r≠key:=by
 constructor
 ·intro hn r hr e
  have:=(h.has key (dG r)).2 ⟨r,hr,e,rfl⟩
  rw[hn]at this
  cases this
 ·intro hno
  cases hs:a.1 key with
  | none=>rfl
  | some s =>
    obtain⟨r,hr,he,_⟩:=(h.has key s).1 hs
    exact absurd he (hno r hr)
open Go.RowKit Go
structure AO (x:Chg):Prop where
 kind:x.kind=1∨x.kind=2∨x.kind=3
 val:bK (keyOf x)=true
 key:(keyOf x).kind≠0
 row:x.kind=1→0<x.row.length
 col:x.kind=2→0<x.column.toNat
 seq:1≤x.seq
theorem FR{ts:List Tab}{x:Chg}(hok:aR ts)(h:aY ts x=0):AO x:=by
 obtain⟨k,hin⟩:=gF h
 obtain⟨hv,hkk⟩:=kX h hok
 have hsq:=hin.seq
 simp only[aB,Bool.and_eq_true,decide_eq_true_eq]at hsq
 refine⟨hin.kind,hv,hkk,fun h1 =>?_,fun h2 =>?_,by omega⟩
 ·rw[(kY h h1 hin).len]
  exact(hok.ae hin.lt).1
 ·obtain⟨c,hu⟩:=pg h h2 hin
  have h3:=hu.pos
  have h4:=hu.col
  rw[h4]
  simpa using h3
theorem sS{x:Chg}(h1:x.kind=1):aA (fA x)=keyOf x:=(kr h1).symm
theorem kK{x:Chg}(h0:0<x.row.length):dG (fA x)=x.seq:=by
 unfold dG fA
 simp only
 cases hn:x.row.length with
 | zero=>omega
 | succ n=>rw[List.replicate_succ];rfl
theorem uL{x:Chg}{r:aJ}(hc:0<x.column.toNat):dG (AQ r x)=dG r:=by
 obtain⟨a,b,d⟩:=r
 unfold dG AQ
 cases b with
 | nil=>rfl
 | cons u us =>
   cases hn:x.column.toNat with
   | zero=>omega
   | succ n=>rfl
theorem uM{x:Chg}{r:aJ}(hc:0<x.column.toNat):aA (AQ r x)=aA r:=by
 obtain⟨a,b,d⟩:=r
 unfold aA AQ
 cases a with
 | nil=>rfl
 | cons u us =>
   cases hn:x.column.toNat with
   | zero=>omega
   | succ n=>rfl
section
variable {a:fu}{t:List aJ}{x:Chg}
theorem Bq(h:aV t)(hx:AO x)(h1:x.kind=1):(∃r∈t,aA r=keyOf x)→(bB t x).length=t.length:=by
 rintro⟨r,hr,he⟩
 rcases h.found hx.val with ⟨hf,hi,hk⟩|⟨hf,hno⟩
 ·rw[mg h h1 hx.val hx.key hf,List.length_set]
 ·exact absurd he (hno r hr)
theorem Bp(h:aV t)(hx:AO x)(h1:x.kind=1)(hno:∀r∈t,aA r≠keyOf x)(hl:t.length<64):(bB t x).length=t.length+1:=by
 rcases h.found hx.val with ⟨hf,hi,hk⟩|⟨hf,_⟩
 ·exact absurd hk (hno _ (lgm hi))
 ·rw[mh h h1 hx.val hf hl,List.length_append,List.length_cons,List.length_take,List.length_drop]
  unfold cK
  have:(t.takeWhile fun y=>decide (aT (aA y) (keyOf x)<0)).length≤t.length:=(List.takeWhile_sublist _).length_le
  omega
theorem Br(h:aV t)(hx:AO x)(h3:x.kind=3):(∃r∈t,aA r=keyOf x)→(bB t x).length=t.length-1:=by
 rintro⟨r,hr,he⟩
 rcases h.found hx.val with ⟨hf,hi,hk⟩|⟨hf,hno⟩
 ·rw[nK h h3 hx.val hx.key hf]
  unfold ik
  rw[List.length_append,List.length_take,List.length_drop]
  omega
 ·exact absurd he (hno r hr)
theorem Bo(h:aV t)(hx:AO x)(h2:x.kind=2):(bB t x).length=t.length:=by
 rcases h.found hx.val with ⟨hf,hi,hk⟩|⟨hf,hno⟩
 ·rw[nJ h h2 hx.val hx.key hf]
  unfold qm
  split
  ·rw[List.length_set]
  ·rfl
 ·rw[iB h omA hx.val hf]
theorem uk.step(h:uk a t)(hK:aV t)(hx:AO x):uk (I7 a x).1 (bB t x):=by
 unfold I7
 cases hs:a.1 (keyOf x) with
 | some s =>
   obtain⟨r0,hr0,he0,hq0⟩:=(h.has _ _).1 hs
   simp only
   rcases hx.kind with h1|h2|h3
   ·rw[if_pos h1]
    refine⟨by rw[Bq hK hx h1 ⟨r0,hr0,he0⟩];exact h.len,fun key q =>?_⟩
    show xI a.1 (keyOf x) (some x.seq) key=some q↔_
    unfold xI
    by_cases hk:key=keyOf x
    ·rw[if_pos hk]
     constructor
     ·intro e
      injection e with e
      exact⟨fA x,(eB hK hx.val hx.key h1 (.inl ⟨r0,hr0,he0⟩)).2 (.inl rfl),by rw[hk];exact sS h1,by rw[←e];exact kK (hx.row h1)⟩
     ·rintro⟨r,hr,e1,e2⟩
      rcases(eB hK hx.val hx.key h1 (.inl ⟨r0,hr0,he0⟩)).1 hr with rfl|⟨_,hne⟩
      ·rw[kK (hx.row h1)]at e2
       rw[e2]
      ·exact absurd (e1.trans hk) hne
    ·rw[if_neg hk,h.has]
     constructor
     ·rintro⟨r,hr,e1,e2⟩
      exact⟨r,(eB hK hx.val hx.key h1 (.inl ⟨r0,hr0,he0⟩)).2 (.inr ⟨hr,by rw[e1];exact hk⟩),e1,e2⟩
     ·rintro⟨r,hr,e1,e2⟩
      rcases(eB hK hx.val hx.key h1 (.inl ⟨r0,hr0,he0⟩)).1 hr with rfl|⟨hr',_⟩
      ·exact absurd (e1.symm.trans (sS h1)) hk
      ·exact⟨r,hr',e1,e2⟩
   ·rw[if_neg omA,if_neg omA]
    refine⟨by rw[Bo hK hx h2];exact h.len,fun key q =>?_⟩
    show a.1 key=some q↔_
    rw[h.has]
    constructor
    ·rintro⟨r,hr,e1,e2⟩
     by_cases hk:aA r=keyOf x
     ·exact⟨AQ r x,(j6 hK hx.val hx.key h2).2 (.inr ⟨r,hr,hk,rfl⟩),by rw[uM (hx.col h2)];exact e1,by rw[uL (hx.col h2)];exact e2⟩
     ·exact⟨r,(j6 hK hx.val hx.key h2).2 (.inl ⟨hr,hk⟩),e1,e2⟩
    ·rintro⟨r,hr,e1,e2⟩
     rcases(j6 hK hx.val hx.key h2).1 hr with ⟨hr',_⟩|⟨r1,hr1,hk1,rfl⟩
     ·exact⟨r,hr',e1,e2⟩
     ·exact⟨r1,hr1,by rw[uM (hx.col h2)]at e1;exact e1,by rw[uL (hx.col h2)]at e2;exact e2⟩
   ·rw[if_neg omA,if_pos h3]
    refine⟨by rw[Br hK hx h3 ⟨r0,hr0,he0⟩];show a.2-1=_;rw[h.len],fun key q =>?_⟩
    show xI a.1 (keyOf x) none key=some q↔_
    unfold xI
    by_cases hk:key=keyOf x
    ·rw[if_pos hk]
     constructor
     ·intro e;cases e
     ·rintro⟨r,hr,e1,e2⟩
      exact absurd (e1.trans hk) ((kg hK hx.val hx.key h3).1 hr).2
    ·rw[if_neg hk,h.has]
     constructor
     ·rintro⟨r,hr,e1,e2⟩
      exact⟨r,(kg hK hx.val hx.key h3).2 ⟨hr,by rw[e1];exact hk⟩,e1,e2⟩
     ·rintro⟨r,hr,e1,e2⟩
      exact⟨r,((kg hK hx.val hx.key h3).1 hr).1,e1,e2⟩
 | none =>
   have hno:=h.lost.1 hs
   simp only
   by_cases hc:x.kind=1∧a.2<64
   ·obtain⟨h1,hl⟩:=hc
    rw[if_pos ⟨h1,hl⟩]
    rw[h.len]at hl
    refine⟨by rw[Bp hK hx h1 hno hl];show a.2+1=_;rw[h.len],fun key q =>?_⟩
    show xI a.1 (keyOf x) (some x.seq) key=some q↔_
    unfold xI
    by_cases hk:key=keyOf x
    ·rw[if_pos hk]
     constructor
     ·intro e
      injection e with e
      exact⟨fA x,(eB hK hx.val hx.key h1 (.inr hl)).2 (.inl rfl),by rw[hk];exact sS h1,by rw[←e];exact kK (hx.row h1)⟩
     ·rintro⟨r,hr,e1,e2⟩
      rcases(eB hK hx.val hx.key h1 (.inr hl)).1 hr with rfl|⟨_,hne⟩
      ·rw[kK (hx.row h1)]at e2
       rw[e2]
      ·exact absurd (e1.trans hk) hne
    ·rw[if_neg hk,h.has]
     constructor
     ·rintro⟨r,hr,e1,e2⟩
      exact⟨r,(eB hK hx.val hx.key h1 (.inr hl)).2 (.inr ⟨hr,by rw[e1];exact hk⟩),e1,e2⟩
     ·rintro⟨r,hr,e1,e2⟩
      rcases(eB hK hx.val hx.key h1 (.inr hl)).1 hr with rfl|⟨hr',_⟩
      ·exact absurd (e1.symm.trans (sS h1)) hk
      ·exact⟨r,hr',e1,e2⟩
   ·rw[if_neg hc,Ag hK hx.val hno (by
     rw[h.len]at hc
     by_cases h1:x.kind=1
     ·exact .inr fun h=>hc ⟨h1,h⟩
     ·exact .inl h1)]
    exact h
end
/-! Vf tables. -/
section
variable {v:List Vn}{s:List Src}{k:Nat}{t:List aJ}{r:aJ}
end
end Go.Proofs.YtjidligipoldeaaGreat
