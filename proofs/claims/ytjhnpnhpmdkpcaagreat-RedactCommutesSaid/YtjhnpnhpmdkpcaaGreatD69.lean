/-
  Contracts and plain laws of this seat, part 69.
-/
import Derived.Test.YtjhnpnhpmdkpcaaGreatD53
import Derived.Test.YtjhnpnhpmdkpcaaGreatD68
import Derived.Test.YtjhnpnhpmdkpcaaGreatD54
set_option linter.unusedVariables false
set_option linter.unusedSimpArgs false
set_option maxRecDepth 100000
set_option maxHeartbeats 16000000
namespace Go.Proofs.YtjhnpnhpmdkpcaaGreat
open Go.RowKit Go
theorem yO{ts:List Tab}{x:Chg}(h1:bn ts x=false)(h2:(keyOf x).kind≠0)(h3:fE (bV ts x.table) x.row)(h4:gT (bV ts x.table) x=false)(h5:(x.kind == 2&&pb (di (bV ts x.table) x.column))=false):aZ ts x=0:=by
 have h2':((keyOf x).kind == 0)=false:=by simpa using h2
 unfold aZ
 rw[h1,h2',aY h3,h4,h5]
 rfl
theorem AU(v:List Vn)(tb sq:Int)(row:List Val):(iy v tb sq row).headD iF=row.headD iF:=by
 unfold iy
 cases row with
 | nil=>rfl
 | cons a t=>simp
theorem kW{x:Chg}(h:x.kind=1):keyOf x=x.row.headD iF:=by
 have h':(x.kind == 1)=true:=by simpa using h
 unfold keyOf
 rw[h']
 rfl
theorem uV{x:Chg}(h:x.kind≠1):keyOf x=x.key:=by
 have h':(x.kind == 1)=false:=by simpa using h
 unfold keyOf
 rw[h']
 rfl
theorem IX{v:List Vn}{tb sq:Int}{row:List Val}(h:qR row=true):qR (iy v tb sq row)=true:=by
 unfold qR at h ⊢
 rw[Bool.and_eq_true,decide_eq_true_eq,List.all_eq_true]at h
 rw[Bool.and_eq_true,decide_eq_true_eq,List.all_eq_true,nA]
 refine⟨h.1,fun y hy =>?_⟩
 obtain⟨i,hi,rfl⟩:=List.getElem_of_mem hy
 rw[nA]at hi
 rw[wU hi]
 split
 ·decide +kernel
 ·exact h.2 _ (lgm hi)
theorem Nz{ts:List Tab}{x:Chg}(v:List Vn)(h:aZ ts x=0)(h1:x.kind=1):aZ ts ⟨x.kind,x.seq,x.day,x.table,none,0,iy v x.table x.seq x.row,x.key,x.column,x.val⟩=0:=by
 obtain⟨hi,hk,ht,hb,hf⟩:=gH h
 have hk1:(x.kind == 1)=true:=by simpa using h1
 have e1:keyOf ⟨x.kind,x.seq,x.day,x.table,none,0,iy v x.table x.seq x.row,x.key,x.column,x.val⟩=keyOf x:=by
  rw[kW h1,kW (x:=⟨x.kind,x.seq,x.day,x.table,none,0,iy v x.table x.seq x.row,x.key,x.column,x.val⟩) h1]
  exact AU v x.table x.seq x.row
 refine yO ?_ (by rw[e1];exact hk) ?_ ?_ hf
 ·unfold bn at hi ⊢
  rw[hk1,if_pos rfl,Bool.or_eq_false_iff]at hi
  show (dI ts.length x||(if (x.kind == 1)=true then dC _ _ else _))=false
  rw[hk1,if_pos rfl,hi.1,Bool.false_or]
  have h2:=hi.2
  unfold dC at h2 ⊢
  rw[Bool.or_eq_false_iff]at h2
  simp only[nA]
  rw[Bool.or_eq_false_iff]
  refine⟨h2.1,?_⟩
  rw[IX (by simpa using h2.2)]
  rfl
 ·intro i hi' hk'
  have hl:i<x.row.length:=by simpa[nA]using hi'
  show bR ((iy v x.table x.seq x.row)[i]'hi') _=true
  rw[wU hl]
  split
  ·simp[bR]
  ·exact ht i hl hk'
 ·unfold gT at hb ⊢
  rw[e1]
  exact hb
theorem Nw{ts:List Tab}{x:Chg}(h:aZ ts x=0)(h2:x.kind=2):aZ ts ⟨x.kind,x.seq,x.day,x.table,none,0,x.row,x.key,x.column,iF⟩=0:=by
 obtain⟨hi,hk,ht,hb,hf⟩:=gH h
 have hk1:(x.kind == 1)=false:=by simp[h2]
 have hk2:(x.kind == 2)=true:=by simp[h2]
 have e1:keyOf ⟨x.kind,x.seq,x.day,x.table,none,0,x.row,x.key,x.column,iF⟩=keyOf x:=by
  rw[uV (x:=x) omA,uV (x:=⟨x.kind,x.seq,x.day,x.table,none,0,x.row,x.key,x.column,iF⟩) (by show x.kind≠1;omega)]
 refine yO ?_ (by rw[e1];exact hk) ht ?_ hf
 ·unfold bn at hi ⊢
  rw[hk1,hk2,if_neg spA,if_pos rfl,Bool.or_eq_false_iff]at hi
  show (dI ts.length x||(if (x.kind == 1)=true then _ else if (x.kind == 2)=true then dG _ _ else _))=false
  rw[hk1,hk2,if_neg spA,if_pos rfl,hi.1,Bool.false_or]
  have h2:=hi.2
  unfold dG at h2 ⊢
  rw[Bool.or_eq_false_iff]at h2 ⊢
  refine⟨h2.1,?_⟩
  have:bL iF=true:=by decide +kernel
  rw[this]
  rfl
 ·unfold gT at hb ⊢
  rw[Bool.or_eq_false_iff]at hb ⊢
  rw[e1]
  refine⟨hb.1,?_⟩
  simp[bR]
theorem Ny{ts:List Tab}{x:Chg}(h:aZ ts x=0):aZ ts (unC x)=0:=h
theorem Gr{ts:List Tab}{x:Chg}(v:List Vn)(h:aZ ts x=0):aZ ts (gp v x)=0:=by
 unfold gp
 split
 ·rename_i h1
  exact Nz v h h1
 ·split
  ·rename_i h2
   exact Nw h h2.1
  ·exact Ny h
theorem AV{ts:List Tab}{x:Chg}(hok:aW ts)(h:aZ ts x=0)(h1:x.kind=1):aZ ts (Cw x)=0∧keyOf (Cw x)=keyOf x:=by
 obtain⟨hi,hk,ht,hb,hf⟩:=gH h
 obtain⟨hv,_⟩:=lI h hok
 have e1:keyOf (Cw x)=keyOf x:=by
  rw[kW h1,uV (x:=Cw x) (by show (3:Int)≠1;decide)]
  rfl
 refine⟨yO ?_ (by rw[e1];exact hk) (fun i h _=>by cases h) ?_ rfl,e1⟩
 ·unfold bn at hi ⊢
  rw[Bool.or_eq_false_iff]at hi
  have h3:=hi.1
  unfold dI at h3
  simp only[Bool.or_eq_false_iff]at h3
  have h4:dI ts.length (Cw x)=false:=by
   unfold dI
   simp only[Bool.or_eq_false_iff]
   exact⟨⟨⟨rfl,h3.1.1.2⟩,h3.1.2⟩,h3.2⟩
  have h5:dP (Cw x)=false:=by
   have e2:bL (x.row.headD iF)=true:=by rw[←kW h1];exact hv
   unfold dP
   show (((decide (0<0)||(0:Int) != 0)||decide (iF≠fG)) || !bL (x.row.headD iF))=false
   rw[e2]
   have:decide (iF≠fG)=false:=by decide +kernel
   rw[this]
   rfl
  rw[h4]
  exact h5
 ·unfold gT at hb ⊢
  rw[Bool.or_eq_false_iff]at hb
  rw[e1]
  show (!bR (keyOf x) (lS (bV ts x.table) 0)||false)=false
  rw[hb.1]
  rfl
theorem Cy{ts:List Tab}{x:Chg}(h:aZ ts x=0)(h2:x.kind=2):x.column=(x.column.toNat:Int) ∧ 0<x.column.toNat:=by
 obtain⟨k,hin⟩:=fP h
 obtain⟨c,hu⟩:=nC h h2 hin
 have h3:=hu.pos
 rw[hu.col]
 exact⟨by simp,by simpa using h3⟩
theorem CY{v:List Vn}{k:Nat}{r:aS}{x y:Chg}(hl:r.1.length=r.2.1.length)(hc:x.column=(x.column.toNat:Int))(h0:0<x.column.toNat)(ht:x.table=(k:Int))(hyc:y.column=x.column)(hyq:y.seq=x.seq)(hyv:y.val=if (⟨x.table,x.column,x.seq⟩:Vn)∈v then iF else x.val):wK (kD v k r) y=kD v k (wK r x):=by
 obtain⟨a,b,d⟩:=r
 unfold wK kD
 simp only
 rw[hyc,hyq,hyv,FI hl h0,ht,←hc]
theorem kZ{v:List Vn}{x:Chg}:keyOf (gp v x)=keyOf x:=by
 unfold gp
 split
 ·rename_i h1
  rw[kW h1,kW (x:=⟨x.kind,x.seq,x.day,x.table,none,0,iy v x.table x.seq x.row,x.key,x.column,x.val⟩) h1]
  exact AU v x.table x.seq x.row
 ·split
  ·rfl
  ·rfl
theorem dU{v:List Vn}{x:Chg}:(gp v x).kind=x.kind∧(gp v x).seq=x.seq∧(gp v x).day=x.day∧(gp v x).table=x.table∧(gp v x).column=x.column:=by
 unfold gp
 split
 ·exact⟨rfl,rfl,rfl,rfl,rfl⟩
 ·split
  ·exact⟨rfl,rfl,rfl,rfl,rfl⟩
  ·exact⟨rfl,rfl,rfl,rfl,rfl⟩
section
variable {ts:List Tab}{v:List Vn}{s:List Src}{k:Nat}{t:List aS}{a:dn}{x:Chg}
structure Kept (ts:List Tab) (x y:Chg):Prop where
 form:aZ ts y=0
 tab:y.table=x.table
 seq:y.seq=x.seq
 day:y.day=x.day
theorem iG(v:List Vn)(h:aZ ts x=0):Kept ts x (gp v x):=⟨Gr v h,dU.2.2.2.1,dU.2.1,dU.2.2.1⟩
theorem ug{t t':List aS}(hK:aU t)(hK':aU t')(h:∀r,stays s k r=true→(r∈t↔r∈t')):iJ v s k t'=iJ v s k t:=by
 refine(hK'.red).ext hK.red fun r =>?_
 rw[cz,cz]
 constructor
 ·rintro⟨r0,h1,h2,h3⟩
  exact⟨r0,(h r0 h2).2 h1,h2,h3⟩
 ·rintro⟨r0,h1,h2,h3⟩
  exact⟨r0,(h r0 h2).1 h1,h2,h3⟩
theorem M7(hok:aW ts)(hf:aZ ts x=0)(hK:aU t)(h64:t.length≤64)(ha:rY a t)(hrow:∀r∈t,r.1.length=r.2.1.length)(hq:∀r∈t,1≤gm r)(hk:x.table=(k:Int)):
 ((folS a x).2=none∧bC t x=t) ∨ ∃e,(folS a x).2=some e∧e.1=x∧((gM v s e=[]∧iJ v s k (bC t x)=iJ v s k t) ∨ ∃y,gM v s e=[y]∧Kept ts x y∧bC (iJ v s k t) y=iJ v s k (bC t x)):=by
 have hx:=pY hok hf
 have hK':aU (bC t x):=hK.nX hf hok
 have hRK:aU (iJ v s k t):=hK.red
 unfold folS
 cases hs:a.1 (keyOf x) with
 | none =>
   have hno:=ha.lost.1 hs
   simp only
   by_cases hc:x.kind=1∧a.2<64
   ·right
    rw[if_pos hc]
    obtain⟨h1,hl⟩:=hc
    rw[ha.len]at hl
    refine⟨_,rfl,rfl,?_⟩
    have hm:∀r,r∈bC t x↔r=dN x∨(r∈t∧aG r≠keyOf x):=fun r=>dE hK hx.val hx.key h1 (.inr hl)
    have hqn:gm (dN x)=x.seq:=jM (hx.row h1)
    by_cases hin:(⟨x.table,x.seq⟩:Src)∈s
    ·left
     refine⟨by simp[gM,hin],ug hK hK' fun r hst =>?_⟩
     rw[hm]
     constructor
     ·intro hr
      exact .inr ⟨hr,hno r hr⟩
     ·rintro(rfl|hr)
      ·rw[fq,hqn,←hk]at hst
       exact absurd hin hst
      ·exact hr.1
    ·right
     refine⟨gp v x,by simp[gM,hin],iG v hf,?_⟩
     have hkp:=iG v hf
     have hy:=pY hok hkp.form
     refine(hRK.nX hkp.form hok).ext hK'.red fun r =>?_
     rw[dE hRK hy.val hy.key (dU.1.trans h1) (by rw[kZ];exact Dv h64 (.inr hl)),cz (t:=bC t x),kZ]
     have hnew:dN (gp v x)=kD v k (dN x):=by
      unfold gp
      rw[if_pos h1]
      unfold dN kD
      simp only[Ej hk,gL]
     have hst:stays s k (dN x)=true:=by rw[fq,hqn,←hk];exact hin
     constructor
     ·rintro(rfl|⟨hr,hne⟩)
      ·exact⟨dN x,(hm _).2 (.inl rfl),hst,hnew⟩
      ·obtain⟨r0,h0,h2,rfl⟩:=cz.1 hr
       rw[dL]at hne
       exact⟨r0,(hm _).2 (.inr ⟨h0,hne⟩),h2,rfl⟩
     ·rintro⟨r0,h0,h2,rfl⟩
      rcases(hm _).1 h0 with rfl|⟨h3,h4⟩
      ·exact .inl hnew.symm
      ·exact .inr ⟨cz.2 ⟨r0,h3,h2,rfl⟩,by rw[dL];exact h4⟩
   ·left
    rw[if_neg hc]
    refine⟨rfl,Av hK hx.val hno ?_⟩
    rw[ha.len]at hc
    by_cases h1:x.kind=1
    ·exact .inr fun h=>hc ⟨h1,h⟩
    ·exact .inl h1
 | some q =>
   right
   obtain⟨r1,hr1,he1,hq1⟩:=(ha.has _ _).1 hs
   simp only
   rcases hx.kind with h1|h2|h3
   ·rw[if_pos h1]
    refine⟨_,rfl,rfl,?_⟩
    have hm:∀r,r∈bC t x↔r=dN x∨(r∈t∧aG r≠keyOf x):=fun r=>dE hK hx.val hx.key h1 (.inl ⟨r1,hr1,he1⟩)
    have hqn:gm (dN x)=x.seq:=jM (hx.row h1)
    by_cases hin:(⟨x.table,x.seq⟩:Src)∈s
    ·by_cases hold:q≠0∧(⟨x.table,q⟩:Src) ∉ s
     ·right
      obtain⟨hfd,hkd⟩:=AV hok hf h1
      refine⟨Cw x,by simp[gM,hin,hold],⟨hfd,rfl,rfl,rfl⟩,?_⟩
      have hy:=pY hok hfd
      refine(hRK.nX hfd hok).ext hK'.red fun r =>?_
      rw[iE hRK hy.val hy.key rfl,cz (t:=bC t x),hkd]
      constructor
      ·rintro⟨hr,hne⟩
       obtain⟨r0,h0,h2,rfl⟩:=cz.1 hr
       rw[dL]at hne
       exact⟨r0,(hm _).2 (.inr ⟨h0,hne⟩),h2,rfl⟩
      ·rintro⟨r0,h0,h2,rfl⟩
       rcases(hm _).1 h0 with rfl|⟨h3,h4⟩
       ·rw[fq,hqn,←hk]at h2
        exact absurd hin h2
       ·exact⟨cz.2 ⟨r0,h3,h2,rfl⟩,by rw[dL];exact h4⟩
     ·left
      have QD:(⟨x.table,q⟩:Src)∈s:=by
       have h5:=hq r1 hr1
       rw[hq1]at h5
       refine Classical.byContradiction fun h6=>hold ⟨by omega,h6⟩
      refine⟨by simp[gM,hin,QD],ug hK hK' fun r hst =>?_⟩
      rw[hm]
      constructor
      ·intro hr
       refine .inr ⟨hr,fun e =>?_⟩
       have:=hK.uniq hr hr1 (e.trans he1.symm)
       subst this
       rw[fq,hq1,←hk]at hst
       exact hst QD
      ·rintro(rfl|hr)
       ·rw[fq,hqn,←hk]at hst
        exact absurd hin hst
       ·exact hr.1
    ·right
     refine⟨gp v x,by simp[gM,hin],iG v hf,?_⟩
     have hkp:=iG v hf
     have hy:=pY hok hkp.form
     refine(hRK.nX hkp.form hok).ext hK'.red fun r =>?_
     rw[dE hRK hy.val hy.key (dU.1.trans h1) (by rw[kZ];exact Dv h64 (.inl ⟨r1,hr1,he1⟩)),cz (t:=bC t x),kZ]
     have hnew:dN (gp v x)=kD v k (dN x):=by
      unfold gp
      rw[if_pos h1]
      unfold dN kD
      simp only[Ej hk,gL]
     have hst:stays s k (dN x)=true:=by rw[fq,hqn,←hk];exact hin
     constructor
     ·rintro(rfl|⟨hr,hne⟩)
      ·exact⟨dN x,(hm _).2 (.inl rfl),hst,hnew⟩
      ·obtain⟨r0,h0,h2,rfl⟩:=cz.1 hr
       rw[dL]at hne
       exact⟨r0,(hm _).2 (.inr ⟨h0,hne⟩),h2,rfl⟩
     ·rintro⟨r0,h0,h2,rfl⟩
      rcases(hm _).1 h0 with rfl|⟨h3,h4⟩
      ·exact .inl hnew.symm
      ·exact .inr ⟨cz.2 ⟨r0,h3,h2,rfl⟩,by rw[dL];exact h4⟩
   ·rw[if_neg omA,if_neg omA]
    refine⟨_,rfl,rfl,?_⟩
    have hm:∀r,r∈bC t x↔(r∈t∧aG r≠keyOf x) ∨ ∃r0∈t,aG r0=keyOf x∧r=wK r0 x:=fun r=>jg hK hx.val hx.key h2
    obtain⟨hcc,hc0⟩:=Cy hf h2
    by_cases hin:(⟨x.table,q⟩:Src)∈s
    ·left
     refine⟨by simp[gM,hin],ug hK hK' fun r hst =>?_⟩
     rw[hm]
     constructor
     ·intro hr
      refine .inl ⟨hr,fun e =>?_⟩
      have:=hK.uniq hr hr1 (e.trans he1.symm)
      subst this
      rw[fq,hq1,←hk]at hst
      exact hst hin
     ·rintro(hr|⟨r0,hr0,hk0,rfl⟩)
      ·exact hr.1
      ·have:=hK.uniq hr0 hr1 (hk0.trans he1.symm)
       subst this
       rw[fq,nz hc0,hq1,←hk]at hst
       exact absurd hin hst
    ·right
     refine⟨gp v x,by simp[gM,hin],iG v hf,?_⟩
     have hkp:=iG v hf
     have hy:=pY hok hkp.form
     have hv:(gp v x).val=if (⟨x.table,x.column,x.seq⟩:Vn)∈v then iF else x.val:=by
      unfold gp
      rw[if_neg omA]
      by_cases hg:(⟨x.table,x.column,x.seq⟩:Vn)∈v
      ·rw[if_pos ⟨h2,hg⟩,if_pos hg]
      ·rw[if_neg (fun h=>hg h.2),if_neg hg]
       rfl
     refine(hRK.nX hkp.form hok).ext hK'.red fun r =>?_
     rw[jg hRK hy.val hy.key (dU.1.trans h2),cz (t:=bC t x),kZ]
     constructor
     ·rintro(⟨hr,hne⟩|⟨r0,hr0,hk0,rfl⟩)
      ·obtain⟨r0,h0,h3,rfl⟩:=cz.1 hr
       rw[dL]at hne
       exact⟨r0,(hm _).2 (.inl ⟨h0,hne⟩),h3,rfl⟩
      ·obtain⟨r2,h0,h3,rfl⟩:=cz.1 hr0
       rw[dL]at hk0
       refine⟨wK r2 x,(hm _).2 (.inr ⟨r2,h0,hk0,rfl⟩),?_,CY (hrow r2 h0) hcc hc0 hk dU.2.2.2.2 dU.2.1 hv⟩
       rw[fq,nz hc0]
       exact fq.1 h3
     ·rintro⟨r0,h0,h3,rfl⟩
      rcases(hm _).1 h0 with ⟨h4,h5⟩|⟨r2,h4,h5,rfl⟩
      ·exact .inl ⟨cz.2 ⟨r0,h4,h3,rfl⟩,by rw[dL];exact h5⟩
      ·refine .inr ⟨kD v k r2,cz.2 ⟨r2,h4,?_,rfl⟩,by rw[dL];exact h5,(CY (hrow r2 h4) hcc hc0 hk dU.2.2.2.2 dU.2.1 hv).symm⟩
       rw[fq,nz hc0]at h3
       exact fq.2 h3
   ·rw[if_neg omA,if_pos h3]
    refine⟨_,rfl,rfl,?_⟩
    have hm:∀r,r∈bC t x↔r∈t∧aG r≠keyOf x:=fun r=>iE hK hx.val hx.key h3
    by_cases hin:(⟨x.table,q⟩:Src)∈s
    ·left
     refine⟨by simp[gM,hin],ug hK hK' fun r hst =>?_⟩
     rw[hm]
     constructor
     ·intro hr
      refine⟨hr,fun e =>?_⟩
      have:=hK.uniq hr hr1 (e.trans he1.symm)
      subst this
      rw[fq,hq1,←hk]at hst
      exact hst hin
     ·exact fun hr=>hr.1
    ·right
     refine⟨gp v x,by simp[gM,hin],iG v hf,?_⟩
     have hkp:=iG v hf
     have hy:=pY hok hkp.form
     refine(hRK.nX hkp.form hok).ext hK'.red fun r =>?_
     rw[iE hRK hy.val hy.key (dU.1.trans h3),cz (t:=bC t x),kZ]
     constructor
     ·rintro⟨hr,hne⟩
      obtain⟨r0,h0,h2,rfl⟩:=cz.1 hr
      rw[dL]at hne
      exact⟨r0,(hm _).2 ⟨h0,hne⟩,h2,rfl⟩
     ·rintro⟨r0,h0,h2,rfl⟩
      obtain⟨h4,h5⟩:=(hm _).1 h0
      exact⟨cz.2 ⟨r0,h4,h2,rfl⟩,by rw[dL];exact h5⟩
end
open Go.RowKit Go
structure sZ (al:List dn) (pl:List (List aS)):Prop where
 len:al.length=pl.length
 at_:∀i (h:i<al.length) (h':i<pl.length),rY al[i] pl[i]
theorem sZ.zero(n:Nat):sZ (List.replicate n dQ) (List.replicate n []):=⟨by simp,fun i h h'=>by simp only[List.getElem_replicate];exact rY.zero⟩
noncomputable def si(ts:List Tab)(pl:List (List aS))(l:List Chg):List (List aS):=l.foldl (fun pl x=>if aZ ts x=0 then aK pl x else pl) pl
theorem Fw(ts:List Tab)(l l':List Chg):bg ts (l++l')=si ts (bg ts l) l':=by
 unfold bg si
 rw[List.foldl_append]
theorem LH(v:List Vn)(s:List Src)(pl:List (List aS))(k:Nat)(t:List aS):jF v s (pl.set k t)=(jF v s pl).set k (iJ v s k t):=by
 unfold jF
 apply List.ext_getElem
 ·simp
 intro i h1 h2
 rw[List.getElem_mapIdx,List.getElem_set,List.getElem_set,List.getElem_mapIdx]
 split
 ·rename_i e;subst e;rfl
 ·rfl
section
variable {ts:List Tab}{v:List Vn}{s:List Src}{al:List dn}{pl:List (List aS)}{x:Chg}
theorem Jg(hok:aW ts)(hf:aZ ts x=0)(hp:gF ts pl)(hK:lQ pl)(hq:∀t∈pl,∀r∈t,1≤gm r)(ha:sZ al pl):
 sZ (bY al x).1 (aK pl x)∧si ts (jF v s pl) ((bY al x).2.flatMap (gM v s))=jF v s (aK pl x)∧(∀y∈(bY al x).2.flatMap (gM v s),Kept ts x y)∧((bY al x).2.flatMap (gM v s)).length≤1:=by
 obtain⟨k,hin⟩:=fP hf
 have hkl:k<pl.length:=by rw[hp.len];exact hin.lt
 have hka:k<al.length:=by rw[ha.len];exact hkl
 have hkt:=hin.tab
 have hsh:=hp.tab k hkl hin.lt
 have e1:aK pl x=pl.set k (bC pl[k] x):=by
  unfold aK
  rw[hkt,iL hkl,Int.toNat_natCast]
 have e2:bY al x=(al.set k (folS al[k] x).1,(folS al[k] x).2.toList):=by
  unfold bY
  rw[hkt,lM hka,Int.toNat_natCast]
 have hKk:=hK _ (lgm hkl)
 have hAk:=ha.at_ k hka hkl
 have hx:=pY hok hf
 have hstep:=M7 (v:=v) (s:=s) hok hf hKk hsh.1 hAk (fun r hr=>by have:=hsh.2 r hr;omega) (hq _ (lgm hkl)) hkt
 have hall:sZ (bY al x).1 (aK pl x):=by
  rw[e1,e2]
  refine⟨by simp[ha.len],fun i h h' =>?_⟩
  simp only[List.getElem_set]
  split
  ·rename_i e
   subst e
   exact hAk.step hKk hx
  ·exact ha.at_ i (by simpa using h) (by simpa using h')
 refine⟨hall,?_⟩
 rw[e1,e2,LH]
 rcases hstep with ⟨h1,h2⟩|⟨e,h1,rfl,⟨h2,h3⟩|⟨y,h2,h3,h4⟩⟩
 ·rw[h1,h2]
  refine⟨?_,fun y hy=>by simp at hy,by simp⟩
  show jF v s pl=_
  rw[←pJ v s pl hkl,List.set_getElem_self]
 ·rw[h1]
  simp only[Option.toList_some,List.flatMap_cons,List.flatMap_nil,List.append_nil,h2]
  refine⟨?_,fun y hy=>by simp at hy,by simp⟩
  show jF v s pl=_
  rw[h3,←pJ v s pl hkl,List.set_getElem_self]
 ·rw[h1]
  simp only[Option.toList_some,List.flatMap_cons,List.flatMap_nil,List.append_nil,h2]
  refine⟨?_,fun z hz=>by rw[List.mem_singleton.1 hz];exact h3,by simp⟩
  have hkr:k<(jF v s pl).length:=by rw[pI];exact hkl
  show (if aZ ts y=0 then aK (jF v s pl) y else jF v s pl)=_
  rw[if_pos h3.form]
  unfold aK
  rw[h3.tab,hkt,iL hkr,Int.toNat_natCast,pJ v s pl hkl,h4]
end
theorem JD{ts:List Tab}{x:Chg}(h:aZ ts x=0):1≤x.seq:=by
 obtain⟨k,hin⟩:=fP h
 have hsq:=hin.seq
 simp only[az,Bool.and_eq_true,decide_eq_true_eq]at hsq
 exact hsq.1
theorem LF{ts:List Tab}{pl:List (List aS)}(hok:aW ts)(hp:gF ts pl)(hs:∀t∈pl,jS (fun q =>1≤q) t):∀t∈pl,∀r∈t,1≤gm r:=fun t ht r hr=>by
 obtain⟨i,hi,rfl⟩:=List.getElem_of_mem ht
 have hi':i<ts.length:=by rw[←hp.len];exact hi
 have h1:=(hp.tab i hi hi').2 r hr
 have h2:=hok.ae hi'
 have h3:=hs _ ht r hr
 obtain⟨a,b,d⟩:=r
 cases b with
 | nil=>simp at h1;omega
 | cons u us=>exact h3 u spA
theorem wB{ts:List Tab}(hok:aW ts)(v:List Vn)(s:List Src)(l:List Chg)(hf:∀x∈l,aZ ts x=0):
 bg ts ((ig (List.replicate ts.length dQ) l).flatMap (gM v s))=jF v s (bg ts l):=by
 have key:∀n,n≤l.length→sZ (folA (List.replicate ts.length dQ) (l.take n)) (bg ts (l.take n))∧bg ts ((ig (List.replicate ts.length dQ) (l.take n)).flatMap (gM v s))=jF v s (bg ts (l.take n)):=by
  intro n
  induction n with
  | zero =>
    intro _
    refine⟨sZ.zero _,?_⟩
    show List.replicate ts.length []=jF v s (List.replicate ts.length [])
    unfold jF
    apply List.ext_getElem
    ·simp
    intro i h1 h2
    rw[List.getElem_mapIdx,List.getElem_replicate]
    rfl
  | succ n ih =>
    intro hn
    obtain⟨h1,h2⟩:=ih omA
    have hnl:n<l.length:=by omega
    have hx:=hf l[n] (lgm hnl)
    obtain⟨hsh,hkeys⟩:=oW hok (l.take n)
    have hsq:=LF hok hsh (vT (P:=fun q =>1≤q) ts (l.take n) (fun y hy=>JD (hf y (List.mem_of_mem_take hy))))
    obtain⟨h3,h4,_,_⟩:=Jg (v:=v) (s:=s) hok hx hsh hkeys hsq h1
    rw[kM ts hnl,if_pos hx,List.take_succ_eq_append_getElem hnl,AZ,AX,List.flatMap_append,Fw,h2]
    exact⟨h3,h4⟩
 have h:=(key l.length nlr).2
 rw[List.take_length]at h
 exact h
/-! The order of what is kept. -/
def Bu(x:Chg):Int × Int:=(x.seq,x.day)
theorem yP{a:dn}{x:Chg}{e:Eff}(h:(folS a x).2=some e):e.1=x∧(e.2.2≠0→x.kind=1):=by
 unfold folS at h
 split at h
 ·split at h
  ·rename_i h1
   injection h with h
   subst h
   exact⟨rfl,fun _=>h1⟩
  ·split at h
   ·injection h with h
    subst h
    exact⟨rfl,fun h=>absurd rfl h⟩
   ·injection h with h
    subst h
    exact⟨rfl,fun h=>absurd rfl h⟩
 ·split at h
  ·rename_i h1
   injection h with h
   subst h
   exact⟨rfl,fun _=>h1.1⟩
  ·cases h
theorem M8{ts:List Tab}{x:Chg}{e:Eff}{v:List Vn}{s:List Src}(hok:aW ts)(hf:aZ ts x=0)(he:e.1=x∧(e.2.2≠0→x.kind=1)){y:Chg}(hy:y∈gM v s e):Kept ts x y:=by
 obtain⟨e1,e2,e3⟩:=e
 obtain⟨rfl,h1⟩:=he
 unfold gM at hy
 split at hy
 ·split at hy
  ·rename_i h2
   rw[List.mem_singleton.1 hy]
   exact⟨(AV hok hf (h1 h2.1)).1,rfl,rfl,rfl⟩
  ·cases hy
 ·rw[List.mem_singleton.1 hy]
  exact iG v hf
theorem Ju(v:List Vn)(s:List Src)(e:Eff):gM v s e=[] ∨ ∃y,gM v s e=[y]∧Bu y=Bu e.1:=by
 unfold gM
 split
 ·split
  ·exact .inr ⟨_,rfl,rfl⟩
  ·exact .inl rfl
 ·exact .inr ⟨_,rfl,by unfold Bu;rw[dU.2.1,dU.2.2.1]⟩
theorem Io{e:Eff}:∀ {l:List Chg}{al:List dn},e∈ig al l→∃x∈l,e.1=x∧(e.2.2≠0→x.kind=1)
 | [],al,h=>by cases h
 | x::l,al,h=>by
   rcases List.mem_append.1 h with h1|h1
   ·have h2:(folS (iW al x.table) x).2=some e:=by
     unfold bY at h1
     simpa using h1
    exact⟨x,by simp,yP h2⟩
   ·obtain⟨y,hy,h2⟩:=Io h1
    exact⟨y,by simp[hy],h2⟩
theorem Ed(v:List Vn)(s:List Src):∀(l:List Chg) (al:List dn),(((ig al l).flatMap (gM v s)).map Bu).Sublist (l.map Bu)
 | [],al=>List.Sublist.refl _
 | x::l,al=>by
   show ((((bY al x).2++ig (bY al x).1 l).flatMap (gM v s)).map Bu).Sublist ([Bu x]++l.map Bu)
   rw[List.flatMap_append,List.map_append]
   refine List.Sublist.append ?_ (Ed v s l _)
   have e1:(bY al x).2=(folS (iW al x.table) x).2.toList:=rfl
   rw[e1]
   cases hs:(folS (iW al x.table) x).2 with
   | none=>exact List.nil_sublist _
   | some e =>
     have he:=(yP hs).1
     simp only[Option.toList_some,List.flatMap_cons,List.flatMap_nil,List.append_nil]
     rcases Ju v s e with h|⟨y,h,ht⟩
     ·rw[h];exact List.nil_sublist _
     ·rw[h,List.map_cons,List.map_nil,ht,he]
      exact List.Sublist.refl _
theorem xY{ts:List Tab}{l:List Chg}(h:gu ts l):l.Pairwise (fun a b=>a.seq<b.seq∧a.day≤b.day):=by
 rw[List.pairwise_iff_getElem]
 intro i j hi hj hij
 obtain⟨d,rfl⟩:∃d,j=i+1+d:=⟨j-(i+1),by omega⟩
 clear hij
 induction d with
 | zero=>exact(h.at_ (i+1) hj).asc omA
 | succ d ih =>
   have h1:=ih omA
   have h2:=(h.at_ (i+1+(d+1)) hj).asc omA
   have e:l[i+1+(d+1)-1]' omA=l[i+1+d]' omA:=by congr 1
   rw[e]at h2
   omega
theorem pK{ts:List Tab}{l:List Chg}(hok:aW ts)(hl:l.length≤1024)(hf:∀x∈l,aZ ts x=0)(hp:l.Pairwise (fun a b=>a.seq<b.seq∧a.day≤b.day)):gu ts l:=
 ⟨hok,hl,fun i hi=>⟨hf _ (lgm hi),fun h0=>List.pairwise_iff_getElem.1 hp (i-1) i omA hi omA⟩⟩
theorem Ps{ts:List Tab}{l:List Chg}(h:gu ts l)(v:List Vn)(s:List Src)(al:List dn):gu ts ((ig al l).flatMap (gM v s)):=by
 have hs:=Ed v s l al
 have hlen:=hs.length_le
 rw[List.length_map,List.length_map]at hlen
 have h1:=h.len
 refine pK h.cat omA (fun y hy =>?_) ?_
 ·obtain⟨e,he,hy⟩:=List.mem_flatMap.1 hy
  obtain⟨x,hx,h2⟩:=Io he
  obtain⟨i,hi,rfl⟩:=List.getElem_of_mem hx
  exact(M8 h.cat (h.at_ i hi).form h2 hy).form
 ·have hp:(l.map Bu).Pairwise (fun a b=>a.1<b.1∧a.2≤b.2):=by
   rw[List.pairwise_map]
   exact xY h
  have hp2:=hp.sublist hs
  rw[List.pairwise_map]at hp2
  exact hp2
theorem JB(tb sq:Int)(row:List Val):iy [] tb sq row=row:=by
 unfold iy
 apply List.ext_getElem
 ·simp
 intro i h1 h2
 simp
theorem Gp(x:Chg):gp [] x=unC x:=by
 unfold gp
 split
 ·rw[JB]
  rfl
 ·rw[if_neg (fun h=>by simp at h)]
theorem yI(L:List Eff):L.flatMap (gM [] [])=L.map fun e=>unC e.1:=by
 induction L with
 | nil=>rfl
 | cons e L ih =>
   rw[List.flatMap_cons,ih,List.map_cons]
   have:gM [] [] e=[unC e.1]:=by
    unfold gM
    rw[if_neg spA,Gp]
   rw[this]
   rfl
theorem ND(a:dn)(x:Chg):folS a (unC x)=((folS a x).1,(folS a x).2.map fun e=>(unC e.1,e.2)):=by
 have hk:keyOf (unC x)=keyOf x:=rfl
 unfold folS
 rw[hk]
 cases hs:a.1 (keyOf x) with
 | some s =>
   simp only
   by_cases h1:x.kind=1
   ·rw[if_pos h1,if_pos (show (unC x).kind=1 from h1)];rfl
   ·rw[if_neg h1,if_neg (show ¬ (unC x).kind=1 from h1)]
    by_cases h3:x.kind=3
    ·rw[if_pos h3,if_pos (show (unC x).kind=3 from h3)];rfl
    ·rw[if_neg h3,if_neg (show ¬ (unC x).kind=3 from h3)];rfl
 | none =>
   simp only
   by_cases h1:x.kind=1∧a.2<64
   ·rw[if_pos h1,if_pos (show (unC x).kind=1∧a.2<64 from h1)];rfl
   ·rw[if_neg h1,if_neg (show ¬ ((unC x).kind=1∧a.2<64) from h1)];rfl
theorem Er(al:List dn)(x:Chg):bY al (unC x)=((bY al x).1,(bY al x).2.map fun e=>(unC e.1,e.2)):=by
 unfold bY
 show (al.set x.table.toNat (folS (iW al x.table) (unC x)).1,(folS (iW al x.table) (unC x)).2.toList)=_
 rw[ND]
 cases (folS (iW al x.table) x).2<;>rfl
theorem Eo:∀(l:List Chg) (al:List dn),(ig al (l.map unC)).map (fun e=>unC e.1)=(ig al l).map fun e=>unC e.1
 | [],al=>rfl
 | x::l,al=>by
   show ((bY al (unC x)).2++ig (bY al (unC x)).1 (l.map unC)).map (fun e=>unC e.1)=((bY al x).2++ig (bY al x).1 l).map fun e=>unC e.1
   rw[Er,List.map_append,List.map_append,Eo l,List.map_map]
   rfl
theorem JG{a:dn}{x:Chg}(h:(folS a x).2=none):(folS a x).1=a:=by
 unfold folS at h ⊢
 split at h
 ·split at h
  ·cases h
  ·split at h
   ·cases h
   ·cases h
 ·split at h
  ·cases h
  ·rename_i h1 h2
   rw[if_neg h2]
theorem zI{α:Type}(l:List α)(n:Nat)(d:α):l.set n ((l[n]?).getD d)=l:=by
 rcases Nat.lt_or_ge n l.length with h|h
 ·rw[List.getElem?_eq_getElem h]
  exact List.set_getElem_self h
 ·rw[List.set_eq_of_length_le h]
theorem JI{al:List dn}{x:Chg}(h:(bY al x).2=[]):(bY al x).1=al:=by
 have h1:(folS (iW al x.table) x).2=none:=by
  unfold bY at h
  simpa using h
 show al.set x.table.toNat (folS (iW al x.table) x).1=al
 rw[JG h1]
 exact zI al _ _
theorem yQ:∀(l:List Chg) (al:List dn),(ig al ((ig al l).map fun e=>unC e.1)).map (fun e=>unC e.1)=(ig al l).map fun e=>unC e.1
 | [],al=>rfl
 | x::l,al=>by
   show (ig al (((bY al x).2++ig (bY al x).1 l).map fun e=>unC e.1)).map (fun e=>unC e.1)=((bY al x).2++ig (bY al x).1 l).map fun e=>unC e.1
   cases hs:(folS (iW al x.table) x).2 with
   | none =>
     have h1:(bY al x).2=[]:=by unfold bY;simp[hs]
     rw[h1,JI h1,List.nil_append]
     exact yQ l al
   | some e =>
     have h1:(bY al x).2=[e]:=by unfold bY;simp[hs]
     have h2:=(yP hs).1
     rw[h1,List.singleton_append,List.map_cons,h2]
     show ((bY al (unC x)).2++ig (bY al (unC x)).1 ((ig (bY al x).1 l).map fun e=>unC e.1)).map (fun e=>unC e.1)=_
     rw[Er,h1,List.map_append]
     simp only
     rw[yQ l (bY al x).1,List.map_cons,List.map_nil,List.map_cons,List.map_nil,List.singleton_append,h2]
     rfl
theorem xG(ts:List Tab)(l:List Chg):bg ts (l.map unC)=bg ts l:=by
 have h:∀(l:List Chg) (pl:List (List aS)),(l.map unC).foldl (fun pl x=>if aZ ts x=0 then aK pl x else pl) pl=l.foldl (fun pl x=>if aZ ts x=0 then aK pl x else pl) pl:=by
  intro l
  induction l with
  | nil=>exact fun _=>rfl
  | cons x l ih =>
    intro pl
    rw[List.map_cons,List.foldl_cons,List.foldl_cons,ih]
    rfl
 exact h l _
theorem OT{ts:List Tab}{l:List Chg}(h:gu ts (l.map unC)):gu ts l:=by
 have hl:=h.len
 rw[List.length_map]at hl
 refine pK h.cat hl (fun x hx =>?_) ?_
 ·obtain⟨i,hi,he⟩:=List.getElem_of_mem (List.mem_map_of_mem (f:=unC) hx)
  have h1:=(h.at_ i hi).form
  rw[he]at h1
  exact h1
 ·have h1:=xY h
  rw[List.pairwise_map]at h1
  exact h1
open Go.RowKit Go
theorem LU{ts:List Tab}{x:Chg}{k:Nat}{t:List aS}(hok:aW ts)(hf:aZ ts x=0)(hin:jU ts x k)(hp:gD (ts[k]'hin.lt).ae t)(hsq:∀r∈t,∀s∈r.2.1,s<x.seq):gD (ts[k]'hin.lt).ae (bC t x):=by
 have hpos:=(hok.ae hin.lt).1
 have hx:=pY hok hf
 have hK:aU t:=hp.keys hpos
 have hq:∀y∈t,gm y<x.seq:=fun y hy=>by
  have hl:0<y.2.1.length:=by rw[(hp.rcd y hy).uL];exact hpos
  have h6:=hsq y hy y.2.1[0] (lgm hl)
  have e:gm y=y.2.1[0]:=by
   obtain⟨a,b,c⟩:=y
   cases b with
   | nil=>simp at hl
   | cons u us=>rfl
  rw[e]
  exact h6
 rcases hin.kind with h1|h2|h3
 ·have hi:=nD hf h1 hin
  have hn:=Ri hin hin.lt h1 hi
  have hkn:aG (dN x)=keyOf x:=uu h1
  have hqn:gm (dN x)=x.seq:=jM (hx.row h1)
  have hne:∀y∈t,aG y≠keyOf x→aT (aG y) (aG (dN x))≠0:=fun y hy h0 e=>by
   rw[hkn]at e
   exact h0 (jQ (hK.val y hy) hx.val e)
  rcases hK.found hx.val with ⟨hfd,hi2,hk⟩|⟨hfd,hno⟩
  ·rw[qE h1 (j6 hK hx.val hx.key hfd)]
   have hlen:=hp.len
   refine(hp.cut _).ins ?_ hn (fun y hy =>?_) (fun y hy e =>?_)
   ·unfold iH
    rw[List.length_append,List.length_take,List.length_drop]
    omega
   ·obtain⟨h4,h5⟩:=(hK.wS hi2 hk y).1 hy
    exact hne y h4 h5
   ·have h4:=hq y ((hK.wS hi2 hk y).1 hy).1
    rw[e,hqn]at h4
    omega
  ·by_cases hl:t.length<64
   ·rw[qF h1 (jO hK hx.val hfd) omA]
    refine hp.ins hl hn (fun y hy=>hne y hy (hno y hy)) (fun y hy e =>?_)
    have h4:=hq y hy
    rw[e,hqn]at h4
    omega
   ·rw[jh hK h1 hx.val hfd omA]
    exact hp
 ·obtain⟨c,hu⟩:=nC hf h2 hin
  by_cases hz:eP t (keyOf x)<0
  ·rw[jG omA hz];exact hp
  ·obtain⟨j,hj,he⟩:=kg (Int.not_lt.1 hz)
   rw[qD h2 he]
   exact hp.upd j hu.col hu.pos hu.lt hu.val hu.typ hin.seq fun r hr s hs=>Int.le_of_lt (hsq r hr s hs)
 ·by_cases hz:eP t (keyOf x)<0
  ·rw[jG omA hz];exact hp
  ·obtain⟨j,hj,he⟩:=kg (Int.not_lt.1 hz)
   rw[qG omA omA he]
   exact hp.cut j
theorem OU{ts:List Tab}{l:List Chg}(ho:gu ts l):POk ts (bg ts l):=by
 have Ua:=List.pairwise_iff_getElem.1 (xY ho)
 have key:∀n,n≤l.length→POk ts (bg ts (l.take n)):=by
  intro n
  induction n with
  | zero=>intro _;exact POk.zero ts
  | succ n ih =>
    intro hn
    have h1:=ih omA
    have hnl:n<l.length:=by omega
    have hf:=(ho.at_ n hnl).form
    have hs:=vT (P:=fun q=>q<l[n].seq) ts (l.take n) (fun y hy=>by
     obtain⟨i,hi,rfl⟩:=List.getElem_of_mem hy
     have hi2:i<n:=by rw[List.length_take]at hi;omega
     rw[List.getElem_take]
     exact(Ua i n omA hnl hi2).1)
    rw[kM ts hnl,if_pos hf]
    obtain⟨k,hin⟩:=fP hf
    have hkp:k<(bg ts (l.take n)).length:=by rw[h1.len];exact hin.lt
    have hpe:aK (bg ts (l.take n)) l[n]=(bg ts (l.take n)).set k (bC (bg ts (l.take n))[k] l[n]):=by
     unfold aK
     rw[hin.tab,Int.toNat_natCast,iL hkp]
    rw[hpe]
    refine⟨by simpa using h1.len,fun i hi hi' =>?_⟩
    rw[List.getElem_set]
    split
    ·rename_i e
     subst e
     exact LU ho.cat hf hin (h1.tab k hkp hin.lt) (hs _ (lgm hkp))
    ·exact h1.tab i (by simpa using hi) hi'
 have h:=key l.length nlr
 rw[List.take_length]at h
 exact h
end Go.Proofs.YtjhnpnhpmdkpcaaGreat
