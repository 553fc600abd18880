/-
  Contracts and plain laws of this seat, part 64.
-/
import Derived.Test.YtjhnpnhpmdkpcaaGreatD29
import Derived.Test.YtjhnpnhpmdkpcaaGreatD63
set_option linter.unusedVariables false
set_option linter.unusedSimpArgs false
set_option maxRecDepth 100000
set_option maxHeartbeats 16000000
namespace Go.Proofs.YtjhnpnhpmdkpcaaGreat
open Go.RowKit Go
section
variable {t t':List aS}{ky:Val}
theorem aU.QI(h:aU t){i j:Nat}(hi:i<t.length)(hj:j<t.length)(hne:i≠j):aG t[i]≠aG t[j]:=fun e=>by
 rcases Nat.lt_or_gt_of_ne hne with h1|h1
 ·have h2:=List.pairwise_iff_getElem.1 h.asc i j hi hj h1
  rw[e,bH.refl]at h2
  omega
 ·have h2:=List.pairwise_iff_getElem.1 h.asc j i hj hi h1
  rw[e,bH.refl]at h2
  omega
theorem aU.uniq(h:aU t){a b:aS}(ha:a∈t)(hb:b∈t)(he:aG a=aG b):a=b:=by
 obtain⟨i,hi,rfl⟩:=List.getElem_of_mem ha
 obtain⟨j,hj,rfl⟩:=List.getElem_of_mem hb
 by_cases e:i=j
 ·subst e;rfl
 ·exact absurd he (h.QI hi hj e)
theorem aU.ext(h:aU t)(h':aU t')(hm:∀r,r∈t↔r∈t'):t=t':=by
 have go:∀(t t':List aS),t.Pairwise (fun a b=>aT (aG a) (aG b)<0)→t'.Pairwise (fun a b=>aT (aG a) (aG b)<0)→(∀r,r∈t↔r∈t')→t=t':=by
  intro t
  induction t with
  | nil =>
    intro t' _ _ hm
    cases t' with
    | nil=>rfl
    | cons b l'=>exact absurd ((hm b).2 spA) spA
  | cons a l ih =>
    intro t' h h' hm
    cases t' with
    | nil=>exact absurd ((hm a).1 spA) spA
    | cons b l' =>
      obtain⟨ha,hl⟩:=List.pairwise_cons.1 h
      obtain⟨hb,hl'⟩:=List.pairwise_cons.1 h'
      have hab:a=b:=by
       rcases List.mem_cons.1 ((hm a).1 spA) with h1|h1
       ·exact h1
       rcases List.mem_cons.1 ((hm b).2 spA) with h2|h2
       ·exact h2.symm
       have h3:=hb a h1
       have h4:=ha b h2
       have:=bH.oM (aG a) (aG b)
       omega
      subst hab
      rw[ih l' hl hl' fun r =>?_]
      have h1:=hm r
      constructor
      ·intro hr
       rcases List.mem_cons.1 (h1.1 (List.mem_cons_of_mem _ hr)) with rfl|h2
       ·have:=ha r hr
        rw[bH.refl]at this
        omega
       ·exact h2
      ·intro hr
       rcases List.mem_cons.1 (h1.2 (List.mem_cons_of_mem _ hr)) with rfl|h2
       ·have:=hb r hr
        rw[bH.refl]at this
        omega
       ·exact h2
 exact go t t' h.asc h'.asc hm
theorem Mg{i:Nat}{r:aS}:r∈iH t i ↔ ∃j,∃h:j<t.length,j≠i∧t[j]=r:=by
 unfold iH
 rw[List.mem_append,List.mem_iff_getElem,List.mem_iff_getElem]
 constructor
 ·rintro(⟨j,hj,rfl⟩|⟨j,hj,rfl⟩)
  ·rw[List.length_take]at hj
   exact⟨j,by omega,by omega,by rw[List.getElem_take]⟩
  ·rw[List.length_drop]at hj
   exact⟨i+1+j,by omega,by omega,by rw[List.getElem_drop]⟩
 ·rintro⟨j,hj,hne,rfl⟩
  rcases Nat.lt_or_gt_of_ne hne with h|h
  ·exact .inl ⟨j,by rw[List.length_take];omega,by rw[List.getElem_take]⟩
  ·refine .inr ⟨j-(i+1),by rw[List.length_drop];omega,?_⟩
   rw[List.getElem_drop]
   congr 1
   omega
theorem aU.wS(h:aU t){i:Nat}(hi:i<t.length)(hk:aG t[i]=ky)(r:aS):r∈iH t i↔r∈t∧aG r≠ky:=by
 rw[Mg]
 constructor
 ·rintro⟨j,hj,hne,rfl⟩
  exact⟨lgm hj,by rw[←hk];exact h.QI hj hi hne⟩
 ·rintro⟨hr,hne⟩
  obtain⟨j,hj,rfl⟩:=List.getElem_of_mem hr
  exact⟨j,hj,fun e=>by subst e;exact hne hk,rfl⟩
theorem aU.mem_set(h:aU t){i:Nat}(hi:i<t.length)(hk:aG t[i]=ky)(y r:aS):r∈t.set i y↔r=y∨(r∈t∧aG r≠ky):=by
 rw[←h.wS hi hk,xz hi,List.mem_append,List.mem_cons]
 unfold iH
 rw[List.mem_append]
 constructor
 ·rintro(h1|h1|h1)
  ·exact .inr (.inl h1)
  ·exact .inl h1
  ·exact .inr (.inr h1)
 ·rintro(h1|h1|h1)
  ·exact .inr (.inl h1)
  ·exact .inl h1
  ·exact .inr (.inr h1)
theorem aU.found(h:aU t)(hv:bL ky=true):(dF t ky=true ∧ ∃hi:dB t ky<t.length,aG t[dB t ky]=ky)∨(dF t ky=false ∧ ∀r∈t,aG r≠ky):=by
 cases hf:dF t ky with
 | true =>
   left
   obtain⟨hi,hc⟩:=(iZ h hv rfl).1 hf
   exact⟨rfl,hi,(jQ hv (h.val _ (lgm hi)) hc).symm⟩
 | false =>
   right
   refine⟨rfl,fun r hr e =>?_⟩
   obtain⟨j,hj,rfl⟩:=List.getElem_of_mem hr
   have hp:dB t ky=j:=by
    refine qC (Nat.le_of_lt hj) (fun i hi hij =>?_) (fun _ =>?_)
    ·have h2:=List.pairwise_iff_getElem.1 h.asc i j hi hj hij
     rw[e]at h2
     have:=bH.oM (aG t[i]) ky
     omega
    ·rw[e,bH.refl]
     exact Int.le_refl 0
   have:=(iZ h hv hp).2 ⟨hj,by rw[e,bH.refl]⟩
   rw[hf]at this
   cases this
end
def wK(r:aS)(x:Chg):aS:=(r.1.set x.column.toNat x.val,r.2.1.set x.column.toNat x.seq,r.2.2)
section
variable {t:List aS}{x:Chg}{r:aS}
theorem dE(h:aU t)(hv:bL (keyOf x)=true)(hkk:(keyOf x).kind≠0)(h1:x.kind=1)(hfit:(∃r∈t,aG r=keyOf x)∨t.length<64):r∈bC t x↔r=dN x∨(r∈t∧aG r≠keyOf x):=by
 rcases h.found hv with ⟨hf,hi,hk⟩|⟨hf,hno⟩
 ·rw[mI h h1 hv hkk hf,h.mem_set hi hk]
 ·have hl:t.length<64:=by
   rcases hfit with ⟨r0,hr0,he⟩|hl
   ·exact absurd he (hno r0 hr0)
   ·exact hl
  rw[mJ h h1 hv hf hl,List.mem_append,List.mem_cons]
  constructor
  ·rintro(h2|h2|h2)
   ·have:=List.mem_of_mem_take h2
    exact .inr ⟨this,hno r this⟩
   ·exact .inl h2
   ·have:=List.mem_of_mem_drop h2
    exact .inr ⟨this,hno r this⟩
  ·rintro(h2|⟨h2,_⟩)
   ·exact .inr (.inl h2)
   ·rw[←List.take_append_drop (dB t (keyOf x)) t,List.mem_append]at h2
    rcases h2 with h2|h2
    ·exact .inl h2
    ·exact .inr (.inr h2)
theorem iE(h:aU t)(hv:bL (keyOf x)=true)(hkk:(keyOf x).kind≠0)(h3:x.kind=3):r∈bC t x↔r∈t∧aG r≠keyOf x:=by
 rcases h.found hv with ⟨hf,hi,hk⟩|⟨hf,hno⟩
 ·rw[nW h h3 hv hkk hf,h.wS hi hk]
 ·rw[iM h omA hv hf]
  exact⟨fun hr=>⟨hr,hno r hr⟩,fun hr=>hr.1⟩
theorem jg(h:aU t)(hv:bL (keyOf x)=true)(hkk:(keyOf x).kind≠0)(h2:x.kind=2):r∈bC t x↔(r∈t∧aG r≠keyOf x) ∨ ∃r0∈t,aG r0=keyOf x∧r=wK r0 x:=by
 rcases h.found hv with ⟨hf,hi,hk⟩|⟨hf,hno⟩
 ·have e:updP t (dB t (keyOf x)) x=t.set (dB t (keyOf x)) (wK t[dB t (keyOf x)] x):=by
   unfold updP
   rw[List.getElem?_eq_getElem hi]
   rfl
  rw[nV h h2 hv hkk hf,e,h.mem_set hi hk]
  constructor
  ·rintro(h4|h4)
   ·exact .inr ⟨_,lgm hi,hk,h4⟩
   ·exact .inl h4
  ·rintro(h4|⟨r0,hr0,hk0,h4⟩)
   ·exact .inr h4
   ·have:=h.uniq hr0 (lgm hi) (hk0.trans hk.symm)
    rw[this]at h4
    exact .inl h4
 ·rw[iM h omA hv hf]
  constructor
  ·exact fun hr =>.inl ⟨hr,hno r hr⟩
  ·rintro(h4|⟨r0,hr0,hk0,_⟩)
   ·exact h4.1
   ·exact absurd hk0 (hno r0 hr0)
theorem Av(h:aU t)(hv:bL (keyOf x)=true)(hno:∀r∈t,aG r≠keyOf x)(hc:x.kind≠1 ∨ ¬ t.length<64):bC t x=t:=by
 have hf:dF t (keyOf x)=false:=by
  rcases h.found hv with ⟨_,hi,hk⟩|⟨hf,_⟩
  ·exact absurd hk (hno _ (lgm hi))
  ·exact hf
 by_cases h1:x.kind=1
 ·rcases hc with hc|hc
  ·exact absurd h1 hc
  ·exact jh h h1 hv hf omA
 ·exact iM h h1 hv hf
end
structure rY (a:dn) (t:List aS):Prop where
 len:a.2=t.length
 has:∀key s,a.1 key=some s ↔ ∃r∈t,aG r=key∧gm r=s
theorem rY.zero:rY dQ []:=⟨rfl,fun key s=>by simp[dQ]⟩
theorem rY.lost{a:dn}{t:List aS}(h:rY a t){key:Val}:a.1 key=none ↔ ∀r∈t,aG r≠key:=by
 constructor
 ·intro hn r hr e
  have:=(h.has key (gm r)).2 ⟨r,hr,e,rfl⟩
  rw[hn]at this
  cases this
 ·intro hno
  cases hs:a.1 key with
  | none=>rfl
  | some s =>
    obtain⟨r,hr,he,_⟩:=(h.has key s).1 hs
    exact absurd he (hno r hr)
open Go.RowKit Go
structure Bn (x:Chg):Prop where
 kind:x.kind=1∨x.kind=2∨x.kind=3
 val:bL (keyOf x)=true
 key:(keyOf x).kind≠0
 row:x.kind=1→0<x.row.length
 col:x.kind=2→0<x.column.toNat
 seq:1≤x.seq
theorem pY{ts:List Tab}{x:Chg}(hok:aW ts)(h:aZ ts x=0):Bn x:=by
 obtain⟨k,hin⟩:=fP h
 obtain⟨hv,hkk⟩:=lI h hok
 have hsq:=hin.seq
 simp only[az,Bool.and_eq_true,decide_eq_true_eq]at hsq
 refine⟨hin.kind,hv,hkk,fun h1 =>?_,fun h2 =>?_,by omega⟩
 ·rw[(nD h h1 hin).len]
  exact(hok.ae hin.lt).1
 ·obtain⟨c,hu⟩:=nC h h2 hin
  have h3:=hu.pos
  have h4:=hu.col
  rw[h4]
  simpa using h3
theorem uu{x:Chg}(h1:x.kind=1):aG (dN x)=keyOf x:=(nZ h1).symm
theorem jM{x:Chg}(h0:0<x.row.length):gm (dN x)=x.seq:=by
 unfold gm dN
 simp only
 cases hn:x.row.length with
 | zero=>omega
 | succ n=>rw[List.replicate_succ];rfl
theorem nz{x:Chg}{r:aS}(hc:0<x.column.toNat):gm (wK r x)=gm r:=by
 obtain⟨a,b,d⟩:=r
 unfold gm wK
 cases b with
 | nil=>rfl
 | cons u us =>
   cases hn:x.column.toNat with
   | zero=>omega
   | succ n=>rfl
theorem AR{x:Chg}{r:aS}(hc:0<x.column.toNat):aG (wK r x)=aG r:=by
 obtain⟨a,b,d⟩:=r
 unfold aG wK
 cases a with
 | nil=>rfl
 | cons u us =>
   cases hn:x.column.toNat with
   | zero=>omega
   | succ n=>rfl
section
variable {a:dn}{t:List aS}{x:Chg}
theorem BM(h:aU t)(hx:Bn x)(h1:x.kind=1):(∃r∈t,aG r=keyOf x)→(bC t x).length=t.length:=by
 rintro⟨r,hr,he⟩
 rcases h.found hx.val with ⟨hf,hi,hk⟩|⟨hf,hno⟩
 ·rw[mI h h1 hx.val hx.key hf,List.length_set]
 ·exact absurd he (hno r hr)
theorem BL(h:aU t)(hx:Bn x)(h1:x.kind=1)(hno:∀r∈t,aG r≠keyOf x)(hl:t.length<64):(bC t x).length=t.length+1:=by
 rcases h.found hx.val with ⟨hf,hi,hk⟩|⟨hf,_⟩
 ·exact absurd hk (hno _ (lgm hi))
 ·rw[mJ h h1 hx.val hf hl,List.length_append,List.length_cons,List.length_take,List.length_drop]
  unfold dB
  have:(t.takeWhile fun y=>decide (aT (aG y) (keyOf x)<0)).length≤t.length:=(List.takeWhile_sublist _).length_le
  omega
theorem BN(h:aU t)(hx:Bn x)(h3:x.kind=3):(∃r∈t,aG r=keyOf x)→(bC t x).length=t.length-1:=by
 rintro⟨r,hr,he⟩
 rcases h.found hx.val with ⟨hf,hi,hk⟩|⟨hf,hno⟩
 ·rw[nW h h3 hx.val hx.key hf]
  unfold iH
  rw[List.length_append,List.length_take,List.length_drop]
  omega
 ·exact absurd he (hno r hr)
theorem BK(h:aU t)(hx:Bn x)(h2:x.kind=2):(bC t x).length=t.length:=by
 rcases h.found hx.val with ⟨hf,hi,hk⟩|⟨hf,hno⟩
 ·rw[nV h h2 hx.val hx.key hf]
  unfold updP
  split
  ·rw[List.length_set]
  ·rfl
 ·rw[iM h omA hx.val hf]
theorem rY.step(h:rY a t)(hK:aU t)(hx:Bn x):rY (folS a x).1 (bC t x):=by
 unfold folS
 cases hs:a.1 (keyOf x) with
 | some s =>
   obtain⟨r0,hr0,he0,hq0⟩:=(h.has _ _).1 hs
   simp only
   rcases hx.kind with h1|h2|h3
   ·rw[if_pos h1]
    refine⟨by rw[BM hK hx h1 ⟨r0,hr0,he0⟩];exact h.len,fun key q =>?_⟩
    show gW a.1 (keyOf x) (some x.seq) key=some q↔_
    unfold gW
    by_cases hk:key=keyOf x
    ·rw[if_pos hk]
     constructor
     ·intro e
      injection e with e
      exact⟨dN x,(dE hK hx.val hx.key h1 (.inl ⟨r0,hr0,he0⟩)).2 (.inl rfl),by rw[hk];exact uu h1,by rw[←e];exact jM (hx.row h1)⟩
     ·rintro⟨r,hr,e1,e2⟩
      rcases(dE hK hx.val hx.key h1 (.inl ⟨r0,hr0,he0⟩)).1 hr with rfl|⟨_,hne⟩
      ·rw[jM (hx.row h1)]at e2
       rw[e2]
      ·exact absurd (e1.trans hk) hne
    ·rw[if_neg hk,h.has]
     constructor
     ·rintro⟨r,hr,e1,e2⟩
      exact⟨r,(dE hK hx.val hx.key h1 (.inl ⟨r0,hr0,he0⟩)).2 (.inr ⟨hr,by rw[e1];exact hk⟩),e1,e2⟩
     ·rintro⟨r,hr,e1,e2⟩
      rcases(dE hK hx.val hx.key h1 (.inl ⟨r0,hr0,he0⟩)).1 hr with rfl|⟨hr',_⟩
      ·exact absurd (e1.symm.trans (uu h1)) hk
      ·exact⟨r,hr',e1,e2⟩
   ·rw[if_neg omA,if_neg omA]
    refine⟨by rw[BK hK hx h2];exact h.len,fun key q =>?_⟩
    show a.1 key=some q↔_
    rw[h.has]
    constructor
    ·rintro⟨r,hr,e1,e2⟩
     by_cases hk:aG r=keyOf x
     ·exact⟨wK r x,(jg hK hx.val hx.key h2).2 (.inr ⟨r,hr,hk,rfl⟩),by rw[AR (hx.col h2)];exact e1,by rw[nz (hx.col h2)];exact e2⟩
     ·exact⟨r,(jg hK hx.val hx.key h2).2 (.inl ⟨hr,hk⟩),e1,e2⟩
    ·rintro⟨r,hr,e1,e2⟩
     rcases(jg hK hx.val hx.key h2).1 hr with ⟨hr',_⟩|⟨r1,hr1,hk1,rfl⟩
     ·exact⟨r,hr',e1,e2⟩
     ·exact⟨r1,hr1,by rw[AR (hx.col h2)]at e1;exact e1,by rw[nz (hx.col h2)]at e2;exact e2⟩
   ·rw[if_neg omA,if_pos h3]
    refine⟨by rw[BN hK hx h3 ⟨r0,hr0,he0⟩];show a.2-1=_;rw[h.len],fun key q =>?_⟩
    show gW a.1 (keyOf x) none key=some q↔_
    unfold gW
    by_cases hk:key=keyOf x
    ·rw[if_pos hk]
     constructor
     ·intro e;cases e
     ·rintro⟨r,hr,e1,e2⟩
      exact absurd (e1.trans hk) ((iE hK hx.val hx.key h3).1 hr).2
    ·rw[if_neg hk,h.has]
     constructor
     ·rintro⟨r,hr,e1,e2⟩
      exact⟨r,(iE hK hx.val hx.key h3).2 ⟨hr,by rw[e1];exact hk⟩,e1,e2⟩
     ·rintro⟨r,hr,e1,e2⟩
      exact⟨r,((iE hK hx.val hx.key h3).1 hr).1,e1,e2⟩
 | none =>
   have hno:=h.lost.1 hs
   simp only
   by_cases hc:x.kind=1∧a.2<64
   ·obtain⟨h1,hl⟩:=hc
    rw[if_pos ⟨h1,hl⟩]
    rw[h.len]at hl
    refine⟨by rw[BL hK hx h1 hno hl];show a.2+1=_;rw[h.len],fun key q =>?_⟩
    show gW a.1 (keyOf x) (some x.seq) key=some q↔_
    unfold gW
    by_cases hk:key=keyOf x
    ·rw[if_pos hk]
     constructor
     ·intro e
      injection e with e
      exact⟨dN x,(dE hK hx.val hx.key h1 (.inr hl)).2 (.inl rfl),by rw[hk];exact uu h1,by rw[←e];exact jM (hx.row h1)⟩
     ·rintro⟨r,hr,e1,e2⟩
      rcases(dE hK hx.val hx.key h1 (.inr hl)).1 hr with rfl|⟨_,hne⟩
      ·rw[jM (hx.row h1)]at e2
       rw[e2]
      ·exact absurd (e1.trans hk) hne
    ·rw[if_neg hk,h.has]
     constructor
     ·rintro⟨r,hr,e1,e2⟩
      exact⟨r,(dE hK hx.val hx.key h1 (.inr hl)).2 (.inr ⟨hr,by rw[e1];exact hk⟩),e1,e2⟩
     ·rintro⟨r,hr,e1,e2⟩
      rcases(dE hK hx.val hx.key h1 (.inr hl)).1 hr with rfl|⟨hr',_⟩
      ·exact absurd (e1.symm.trans (uu h1)) hk
      ·exact⟨r,hr',e1,e2⟩
   ·rw[if_neg hc,Av hK hx.val hno (by
     rw[h.len]at hc
     by_cases h1:x.kind=1
     ·exact .inr fun h=>hc ⟨h1,h⟩
     ·exact .inl h1)]
    exact h
end
/-! Va tables. -/
section
variable {v:List Vn}{s:List Src}{k:Nat}{t:List aS}{r:aS}
theorem cz:r∈iJ v s k t ↔ ∃r0∈t,stays s k r0=true∧r=kD v k r0:=by
 unfold iJ
 rw[List.mem_map]
 constructor
 ·rintro⟨r0,h,rfl⟩
  obtain⟨h1,h2⟩:=List.mem_filter.1 h
  exact⟨r0,h1,h2,rfl⟩
 ·rintro⟨r0,h1,h2,rfl⟩
  exact⟨r0,List.mem_filter.2 ⟨h1,h2⟩,rfl⟩
theorem dL:aG (kD v k r)=aG r:=by
 obtain⟨a,b,d⟩:=r
 unfold aG kD bX
 cases a with
 | nil=>rfl
 | cons u us=>simp
theorem aU.red(h:aU t):aU (iJ v s k t):=by
 refine⟨fun r hr =>?_,fun r hr =>?_,?_⟩
 ·obtain⟨r0,h0,_,rfl⟩:=cz.1 hr
  show 0<(bX v k r0.1 r0.2.1).length
  rw[gL]
  exact h.row r0 h0
 ·obtain⟨r0,h0,_,rfl⟩:=cz.1 hr
  rw[dL]
  exact h.val r0 h0
 ·unfold iJ
  rw[List.pairwise_map]
  simp only[dL]
  exact h.asc.filter _
theorem Du:(iJ v s k t).length≤t.length:=by
 unfold iJ
 rw[List.length_map]
 exact List.length_filter_le _ _
theorem Dv(hl:t.length≤64){ky:Val}(h:(∃r∈t,aG r=ky)∨t.length<64):(∃r∈iJ v s k t,aG r=ky)∨(iJ v s k t).length<64:=by
 rcases h with ⟨r,hr,he⟩|h
 ·cases hst:stays s k r with
  | true=>exact .inl ⟨kD v k r,cz.2 ⟨r,hr,hst,rfl⟩,by rw[dL];exact he⟩
  | false =>
    refine .inr ?_
    have h1:(t.filter (stays s k)).length<t.length:=List.length_filter_lt_length_iff_exists.2 ⟨r,hr,by rw[hst];simp⟩
    unfold iJ
    rw[List.length_map]
    omega
 ·exact .inr (Nat.lt_of_le_of_lt Du h)
theorem FI{row:List Val}{sq:List Int}(hl:row.length=sq.length){c:Nat}(hc:0<c)(x:Val)(q:Int):bX v k (row.set c x) (sq.set c q)=(bX v k row sq).set c (if (⟨(k:Int),(c:Int),q⟩:Vn)∈v then iF else x):=by
 unfold bX
 apply List.ext_getElem
 ·simp
 intro i h1 h2
 have hi:i<row.length:=by simpa using h1
 rw[List.getElem_mapIdx,List.getElem_set,List.getElem_set,List.getElem_mapIdx]
 by_cases e:c=i
 ·subst e
  have:(sq.set c q).getD c 0=q:=by
   rw[List.getD_eq_getElem?_getD,List.getElem?_set_self omA]
   rfl
  rw[this,if_pos rfl,if_pos rfl]
  simp[hc]
 ·have:(sq.set c q).getD i 0=sq.getD i 0:=by
   rw[List.getD_eq_getElem?_getD,List.getElem?_set_ne e,←List.getD_eq_getElem?_getD]
  rw[this,if_neg e,if_neg e]
theorem Ej{x:Chg}{tb:Int}(ht:tb=(k:Int)):iy v tb x.seq x.row=bX v k x.row (List.replicate x.row.length x.seq):=by
 subst ht
 unfold iy bX
 apply List.ext_getElem
 ·simp
 intro i h1 h2
 have hi:i<x.row.length:=by simpa using h1
 rw[List.getElem_mapIdx,List.getElem_mapIdx]
 have:(List.replicate x.row.length x.seq).getD i 0=x.seq:=by
  rw[List.getD_eq_getElem?_getD,List.getElem?_replicate,if_pos hi]
  rfl
 rw[this]
 simp
theorem fq{r:aS}:stays s k r=true↔(⟨(k:Int),gm r⟩:Src) ∉ s:=by
 unfold stays gm
 simp
end
end Go.Proofs.YtjhnpnhpmdkpcaaGreat
