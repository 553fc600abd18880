/-
  Contracts and plain laws of this seat, part 64.
-/
import Derived.Test.YtjidligipoldeaaGreatT65
set_option linter.unusedVariables false
set_option linter.unusedSimpArgs false
set_option maxRecDepth 100000
set_option maxHeartbeats 16000000
namespace Go.Proofs.YtjidligipoldeaaGreat
open Go.RowKit Go
section
variable {t t':List aG}{ky:Val}
theorem aT.Qj(h:aT t){i j:Nat}(hi:i<t.length)(hj:j<t.length)(hne:i≠j):ay t[i]≠ay t[j]:=fun e=>by
 rcases Nat.lt_or_gt_of_ne hne with h1|h1
 ·have h2:=List.pairwise_iff_getElem.1 h.asc i j hi hj h1
  rw[e,bI.refl]at h2
  omega
 ·have h2:=List.pairwise_iff_getElem.1 h.asc j i hj hi h1
  rw[e,bI.refl]at h2
  omega
theorem aT.uniq(h:aT t){a b:aG}(ha:a∈t)(hb:b∈t)(he:ay a=ay b):a=b:=by
 obtain⟨i,hi,rfl⟩:=List.getElem_of_mem ha
 obtain⟨j,hj,rfl⟩:=List.getElem_of_mem hb
 by_cases e:i=j
 ·subst e;rfl
 ·exact absurd he (h.Qj hi hj e)
theorem aT.ext(h:aT t)(h':aT t')(hm:∀r,r∈t↔r∈t'):t=t':=by
 have go:∀(t t':List aG),t.Pairwise (fun a b=>aU (ay a) (ay b)<0)→t'.Pairwise (fun a b=>aU (ay a) (ay b)<0)→(∀r,r∈t↔r∈t')→t=t':=by
  intro t
  induction t with
  | nil =>
    intro t' _ _ hm
    cases t' with
    | nil=>rfl
    | cons b l'=>exact absurd ((hm b).2 spA) spA
  | cons a l ih =>
    intro t' h h' hm
    cases t' with
    | nil=>exact absurd ((hm a).1 spA) spA
    | cons b l' =>
      obtain⟨ha,hl⟩:=List.pairwise_cons.1 h
      obtain⟨hb,hl'⟩:=List.pairwise_cons.1 h'
      have hab:a=b:=by
       rcases List.mem_cons.1 ((hm a).1 spA) with h1|h1
       ·exact h1
       rcases List.mem_cons.1 ((hm b).2 spA) with h2|h2
       ·exact h2.symm
       have h3:=hb a h1
       have h4:=ha b h2
       have:=bI.oU (ay a) (ay b)
       omega
      subst hab
      rw[ih l' hl hl' fun r =>?_]
      have h1:=hm r
      constructor
      ·intro hr
       rcases List.mem_cons.1 (h1.1 (List.mem_cons_of_mem _ hr)) with rfl|h2
       ·have:=ha r hr
        rw[bI.refl]at this
        omega
       ·exact h2
      ·intro hr
       rcases List.mem_cons.1 (h1.2 (List.mem_cons_of_mem _ hr)) with rfl|h2
       ·have:=hb r hr
        rw[bI.refl]at this
        omega
       ·exact h2
 exact go t t' h.asc h'.asc hm
theorem Lp{i:Nat}{r:aG}:r∈iL t i ↔ ∃j,∃h:j<t.length,j≠i∧t[j]=r:=by
 unfold iL
 rw[List.mem_append,List.mem_iff_getElem,List.mem_iff_getElem]
 constructor
 ·rintro(⟨j,hj,rfl⟩|⟨j,hj,rfl⟩)
  ·rw[List.length_take]at hj
   exact⟨j,by omega,by omega,by rw[List.getElem_take]⟩
  ·rw[List.length_drop]at hj
   exact⟨i+1+j,by omega,by omega,by rw[List.getElem_drop]⟩
 ·rintro⟨j,hj,hne,rfl⟩
  rcases Nat.lt_or_gt_of_ne hne with h|h
  ·exact .inl ⟨j,by rw[List.length_take];omega,by rw[List.getElem_take]⟩
  ·refine .inr ⟨j-(i+1),by rw[List.length_drop];omega,?_⟩
   rw[List.getElem_drop]
   congr 1
   omega
theorem aT.wS(h:aT t){i:Nat}(hi:i<t.length)(hk:ay t[i]=ky)(r:aG):r∈iL t i↔r∈t∧ay r≠ky:=by
 rw[Lp]
 constructor
 ·rintro⟨j,hj,hne,rfl⟩
  exact⟨lgm hj,by rw[←hk];exact h.Qj hj hi hne⟩
 ·rintro⟨hr,hne⟩
  obtain⟨j,hj,rfl⟩:=List.getElem_of_mem hr
  exact⟨j,hj,fun e=>by subst e;exact hne hk,rfl⟩
theorem aT.mem_set(h:aT t){i:Nat}(hi:i<t.length)(hk:ay t[i]=ky)(y r:aG):r∈t.set i y↔r=y∨(r∈t∧ay r≠ky):=by
 rw[←h.wS hi hk,xI hi,List.mem_append,List.mem_cons]
 unfold iL
 rw[List.mem_append]
 constructor
 ·rintro(h1|h1|h1)
  ·exact .inr (.inl h1)
  ·exact .inl h1
  ·exact .inr (.inr h1)
 ·rintro(h1|h1|h1)
  ·exact .inr (.inl h1)
  ·exact .inl h1
  ·exact .inr (.inr h1)
theorem aT.found(h:aT t)(hv:bT ky=true):(dC t ky=true ∧ ∃hi:bQ t ky<t.length,ay t[bQ t ky]=ky)∨(dC t ky=false ∧ ∀r∈t,ay r≠ky):=by
 cases hf:dC t ky with
 | true =>
   left
   obtain⟨hi,hc⟩:=(iX h hv rfl).1 hf
   exact⟨rfl,hi,(jJ hv (h.val _ (lgm hi)) hc).symm⟩
 | false =>
   right
   refine⟨rfl,fun r hr e =>?_⟩
   obtain⟨j,hj,rfl⟩:=List.getElem_of_mem hr
   have hp:bQ t ky=j:=by
    refine qx (Nat.le_of_lt hj) (fun i hi hij =>?_) (fun _ =>?_)
    ·have h2:=List.pairwise_iff_getElem.1 h.asc i j hi hj hij
     rw[e]at h2
     have:=bI.oU (ay t[i]) ky
     omega
    ·rw[e,bI.refl]
     exact Int.le_refl 0
   have:=(iX h hv hp).2 ⟨hj,by rw[e,bI.refl]⟩
   rw[hf]at this
   cases this
end
def ku(r:aG)(x:Chg):aG:=(r.1.set x.column.toNat x.val,r.2.1.set x.column.toNat x.seq,r.2.2)
section
variable {t:List aG}{x:Chg}{r:aG}
theorem kP(h:aT t)(hv:bT (keyOf x)=true)(hkk:(keyOf x).kind≠0)(h1:x.kind=1)(hfit:(∃r∈t,ay r=keyOf x)∨t.length<64):r∈aW t x↔r=dX x∨(r∈t∧ay r≠keyOf x):=by
 rcases h.found hv with ⟨hf,hi,hk⟩|⟨hf,hno⟩
 ·rw[rE h h1 hv hkk hf,h.mem_set hi hk]
 ·have hl:t.length<64:=by
   rcases hfit with ⟨r0,hr0,he⟩|hl
   ·exact absurd he (hno r0 hr0)
   ·exact hl
  rw[rF h h1 hv hf hl,List.mem_append,List.mem_cons]
  constructor
  ·rintro(h2|h2|h2)
   ·have:=List.mem_of_mem_take h2
    exact .inr ⟨this,hno r this⟩
   ·exact .inl h2
   ·have:=List.mem_of_mem_drop h2
    exact .inr ⟨this,hno r this⟩
  ·rintro(h2|⟨h2,_⟩)
   ·exact .inr (.inl h2)
   ·rw[←List.take_append_drop (bQ t (keyOf x)) t,List.mem_append]at h2
    rcases h2 with h2|h2
    ·exact .inl h2
    ·exact .inr (.inr h2)
theorem nX(h:aT t)(hv:bT (keyOf x)=true)(hkk:(keyOf x).kind≠0)(h3:x.kind=3):r∈aW t x↔r∈t∧ay r≠keyOf x:=by
 rcases h.found hv with ⟨hf,hi,hk⟩|⟨hf,hno⟩
 ·rw[uf h h3 hv hkk hf,h.wS hi hk]
 ·rw[jR h omA hv hf]
  exact⟨fun hr=>⟨hr,hno r hr⟩,fun hr=>hr.1⟩
theorem kN(h:aT t)(hv:bT (keyOf x)=true)(hkk:(keyOf x).kind≠0)(h2:x.kind=2):r∈aW t x↔(r∈t∧ay r≠keyOf x) ∨ ∃r0∈t,ay r0=keyOf x∧r=ku r0 x:=by
 rcases h.found hv with ⟨hf,hi,hk⟩|⟨hf,hno⟩
 ·have e:rU t (bQ t (keyOf x)) x=t.set (bQ t (keyOf x)) (ku t[bQ t (keyOf x)] x):=by
   unfold rU
   rw[List.getElem?_eq_getElem hi]
   rfl
  rw[tZ h h2 hv hkk hf,e,h.mem_set hi hk]
  constructor
  ·rintro(h4|h4)
   ·exact .inr ⟨_,lgm hi,hk,h4⟩
   ·exact .inl h4
  ·rintro(h4|⟨r0,hr0,hk0,h4⟩)
   ·exact .inr h4
   ·have:=h.uniq hr0 (lgm hi) (hk0.trans hk.symm)
    rw[this]at h4
    exact .inl h4
 ·rw[jR h omA hv hf]
  constructor
  ·exact fun hr =>.inl ⟨hr,hno r hr⟩
  ·rintro(h4|⟨r0,hr0,hk0,_⟩)
   ·exact h4.1
   ·exact absurd hk0 (hno r0 hr0)
theorem uZ(h:aT t)(hv:bT (keyOf x)=true)(hno:∀r∈t,ay r≠keyOf x)(hc:x.kind≠1 ∨ ¬ t.length<64):aW t x=t:=by
 have hf:dC t (keyOf x)=false:=by
  rcases h.found hv with ⟨_,hi,hk⟩|⟨hf,_⟩
  ·exact absurd hk (hno _ (lgm hi))
  ·exact hf
 by_cases h1:x.kind=1
 ·rcases hc with hc|hc
  ·exact absurd h1 hc
  ·exact jg h h1 hv hf omA
 ·exact jR h h1 hv hf
end
open Go.RowKit Go
structure Wv (x:Chg):Prop where
 kind:x.kind=1∨x.kind=2∨x.kind=3
 val:bT (keyOf x)=true
 key:(keyOf x).kind≠0
 row:x.kind=1→0<x.row.length
 col:x.kind=2→0<x.column.toNat
 seq:1≤x.seq
theorem ou{ts:List Tab}{x:Chg}(hok:aN ts)(h:aV ts x=0):Wv x:=by
 obtain⟨k,hin⟩:=fF h
 obtain⟨hv,hkk⟩:=ll h hok
 have hsq:=hin.seq
 simp only[aB,Bool.and_eq_true,decide_eq_true_eq]at hsq
 refine⟨hin.kind,hv,hkk,fun h1 =>?_,fun h2 =>?_,by omega⟩
 ·rw[(nA h h1 hin).len]
  exact(hok.ae hin.lt).1
 ·obtain⟨c,hu⟩:=ny h h2 hin
  have h3:=hu.pos
  have h4:=hu.col
  rw[h4]
  simpa using h3
theorem Oj{x:Chg}(h1:x.kind=1):ay (dX x)=keyOf x:=(oh h1).symm
theorem qD{x:Chg}(h0:0<x.row.length):bH (dX x)=x.seq:=by
 unfold bH dX
 simp only
 cases hn:x.row.length with
 | zero=>omega
 | succ n=>rw[List.replicate_succ];rfl
theorem iW{x:Chg}{r:aG}(hc:0<x.column.toNat):bH (ku r x)=bH r:=by
 obtain⟨a,b,d⟩:=r
 unfold bH ku
 cases b with
 | nil=>rfl
 | cons u us =>
   cases hn:x.column.toNat with
   | zero=>omega
   | succ n=>rfl
theorem vD{x:Chg}{r:aG}(hc:0<x.column.toNat):ay (ku r x)=ay r:=by
 obtain⟨a,b,d⟩:=r
 unfold ay ku
 cases a with
 | nil=>rfl
 | cons u us =>
   cases hn:x.column.toNat with
   | zero=>omega
   | succ n=>rfl
/-! VA tables. -/
end Go.Proofs.YtjidligipoldeaaGreat
