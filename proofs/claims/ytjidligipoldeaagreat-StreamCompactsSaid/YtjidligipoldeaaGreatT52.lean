/-
  Contracts and plain laws of this seat, part 52.
-/
import Derived.Test.YtjidligipoldeaaGreatT41
set_option linter.unusedVariables false
set_option linter.unusedSimpArgs false
set_option maxRecDepth 100000
set_option maxHeartbeats 16000000
namespace Go.Proofs.YtjidligipoldeaaGreat
open Go.RowKit Go
theorem EF{ts:List Tab}{rt rt':List RTab}(h:rt.map aD=rt'.map aD)(x:Chg):mF ts rt x=mF ts rt' x:=by
 have e3:∀c v,jk ts rt c v=jk ts rt' c v:=fun c v=>by unfold jk;rw[qE,qE,h]
 have e4:mq ts rt (bW ts x.table) x.row=mq ts rt' (bW ts x.table) x.row:=by unfold mq;simp only[e3]
 have e5:l5 ts rt (bW ts x.table) x.column x.val=l5 ts rt' (bW ts x.table) x.column x.val:=by
  unfold l5
  split
  ·exact e3 _ _
  ·rfl
 unfold mF
 rw[qE,qE,tX,tX,e4,e5,h]
theorem FV{ts:List Tab}{l:List Chg}{pl:List (List aG)}(h:oM ts l pl)(ho:l.Pairwise (fun a b=>a.seq<b.seq∧a.day≤b.day))(i:Nat)(hi:i<l.length):Wi ts l i hi:=by
 obtain⟨rt,h1,h2⟩:=h.at_ i hi
 have hf:=(qi h2).2
 refine⟨hf,fun h0 =>?_,fun rt' h3 =>?_⟩
 ·have h4:=List.pairwise_iff_getElem.1 ho (i-1) i omA hi omA
  unfold Vv
  simp only[Bool.and_eq_true,decide_eq_true_eq]
  exact h4
 ·rw[EF (h3.trans h1.symm)]
  unfold lv at h2
  split at h2
  ·cases h2
  ·split at h2
   ·rename_i h5
    rw[h2]at h5
    cases h5
   ·split at h2
    ·cases h2
    ·exact h2
theorem Jk{ts:List Tab}{l:List Chg}{pl:List (List aG)}(hok:aN ts)(h:oM ts l pl)(ho:l.Pairwise (fun a b=>a.seq<b.seq∧a.day≤b.day))(hl:l.length≤1024):bK ts l:=
 ⟨hok,hl,fun i hi=>⟨(FV h ho i hi).1,fun h0=>List.pairwise_iff_getElem.1 ho (i-1) i omA hi omA⟩⟩
open Go.RowKit Go
variable {o:Oth}
structure nJ (w:World) (B p mb fb:Nat) (A:Option Addr) (c:Nat) (ts:List Tab) (o:Oth) where
 u:World
 s:(∃F,jq w B p mb fb A c ts o F)→∃F,jq u B p mb fb A c ts o F
 g:w.grownBy u (some fb)
instance (w:World) (B p mb fb:Nat) (A:Option Addr) (c:Nat) (ts:List Tab) (o:Oth):Inhabited (nJ w B p mb fb A c ts o):=⟨⟨w,fun h=>h,gL w _⟩⟩
section
variable {w:World}{B p mb fb:Nat}{A:Option Addr}{c:Nat}{ts:List Tab}
theorem jP{P:Program}{id:Nat}{Q:Exit→Act→World→Prop}{a:Act}{l:List Oper}(hm:P.follows .mixedOrders=true)(hB:Region.lexB .any l.toArray=true)
 (h:wpQuiet P l.toArray (fun w' =>∃x:nJ w B p mb fb A c ts o,w'=x.u) (fun a' =>∀w',(∃x:nJ w B p mb fb A c ts o,w'=x.u)→Q .normal a' w') l a):(Code.region id l.toArray true).wp P Q a w:=
 wp_region_quiet (C:=fun w' =>∃x:nJ w B p mb fb A c ts o,w'=x.u) hm hB ⟨⟨w.drew,fun⟨F,h⟩=>⟨F,h.next brf.drew⟩,sK (gL w _)⟩,rfl⟩ (by simpa using h)
theorem P5(b:Nat)(hb:b<w.heap.size)(hne:b≠fb):∀(x:nJ w B p mb fb A c ts o) (q:Nat),x.u.cell? ⟨b,q,none⟩=w.cell? ⟨b,q,none⟩:=
 fun x q=>World.cell?_of_block (x.g.block b hb (fun e=>by injection e with e;exact hne e))
theorem Pb(kd sq dy tb:Int)(A0:Option Addr)(cp:Nat)(row:List Val)(key:Val)(cl:Int)(vl:Val)(w0:World)(x:nJ w B p mb fb A c ts o)(hS:∃F,jq w B p mb fb A c ts o F)(h0:Below w0.heap.size w0 w)(hfb:w0.heap.size≤fb)(hT:aF w0 w0.heap.size A ts)(hs:aM ts)(hok:aN ts)(hcg:gF w0 w0.heap.size A c ts o)(hB:B≤w.heap.size)(hR:ag w0 w0.heap.size Val.cells 3 A0 row)(hrl:row.length≤1000000){r:Int}(hr:aV ts ⟨kd,sq,dy,tb,A0,cp,row,key,cl,vl⟩=r):
 Calls Tryz.prog 76 #[.pointer (some ⟨p,0,none⟩),.agg #[.int .i64 kd,.int .i64 sq,.int .i64 dy,.int .i64 tb,.slice A0 row.length cp,.int .i64 key.kind,.int .i64 key.num,.string key.text,.int .i64 cl,.int .i64 vl.kind,.int .i64 vl.num,.string vl.text]] x.u fun e w''=>e=.returned (.int .i64 r) ∧ ∃y:nJ w B p mb fb A c ts o,w''=y.u:=by
 obtain⟨F,hF⟩:=x.s hS
 have hb:Below w0.heap.size w0 x.u:=Below.grown h0 x.g h0.size inB
 refine(sV B p mb fb A c ts F kd sq dy tb A0 cp row key cl vl x.u hF (hT.next hb) hs hok (hcg.next hb) (Nat.le_trans hB x.g.size) (hR.next hb) hrl hr).mono ?_
 rintro e u' ⟨rfl,⟨F',hF',_⟩,hg⟩
 exact⟨rfl,⟨u',fun _=>⟨F',hF'⟩,au x.g hg⟩,rfl⟩
theorem FJ(y z:Chg)(x:nJ w B p mb fb A c ts o){r:Bool}(hr:(decide (y.seq<z.seq)&&decide (y.day≤z.day))=r):
 Calls Tryz.prog 107 #[.agg #[.int .i64 y.kind,.int .i64 y.seq,.int .i64 y.day,.int .i64 y.table,.slice y.A y.row.length y.cap,.int .i64 y.key.kind,.int .i64 y.key.num,.string y.key.text,.int .i64 y.column,.int .i64 y.val.kind,.int .i64 y.val.num,.string y.val.text],.agg #[.int .i64 z.kind,.int .i64 z.seq,.int .i64 z.day,.int .i64 z.table,.slice z.A z.row.length z.cap,.int .i64 z.key.kind,.int .i64 z.key.num,.string z.key.text,.int .i64 z.column,.int .i64 z.val.kind,.int .i64 z.val.num,.string z.val.text]] x.u fun e w''=>e=.returned (.bool r) ∧ ∃y:nJ w B p mb fb A c ts o,w''=y.u:=by
 refine(Cs y z x.u hr).mono ?_
 rintro e u' ⟨rfl,hb⟩
 exact⟨rfl,⟨u',fun h=>by obtain⟨F,hF⟩:=x.s h;exact⟨F,hF.next hb⟩,l8 x.g hb⟩,rfl⟩
end
theorem kF(w:World):CallsD Tryz.prog 106 #[] .returning w fun e u' w'=>e=.returned (.tuple #[])∧u'=.returning∧w'=w:=by
 refine callsD_of_wpS Tryz.func106 rfl fun c₀ cs hu =>?_
 apply wpS_region
 cases c₀
 simp_all[wpOpsS,go_sem,recoverD,Tryz.ntmps106,bodyPostS,results,Tryz.results106]
theorem Cu(A:Option Addr)(c m:Nat)(ts:List Tab)(LA:Option Addr)(lc n:Nat)(l:List Chg)(w:World)(ht:aF w w.heap.size A ts)(hm:ts.length=m)(hs:aM ts)(hok:aN ts)(hcg:gF w w.heap.size A c ts o)(hl:dQ w w.heap.size LA l)(hn:l.length=n)(hn6:n≤1024)(hrow:∀x∈l,x.row.length≤1000000){r:Bool}(hr:pb (bK ts l)=r):
 Calls Tryz.prog 60 #[.agg #[.slice A m c,.slice o.vA 0 o.vc,.slice o.iA o.idx.length o.ic,.slice o.sA o.skt.length o.sc,.slice o.cA o.cch.length o.cc,.slice o.rA o.rel.length o.rc,.slice o.tA o.str.length o.tc,.slice o.bA o.bak.length o.bc],.slice LA n lc] w fun e w'=>e=.returned (.bool r)∧Below w.heap.size w w':=by
 subst hm hn hr
 have h8:=hok.len
 have HT:=qh ht
 have HS:=qh hs
 have HOK:=qh hok
 have HCG:=qh hcg
 have HL:=qh hl
 have iV:=qh hrow
 have Xj:decide (1024<l.length)=false:=by simp;omega
 have Xi:decide ((1024:Int)<(l.length:Int))=false:=by simp;omega
 clear ht hs hok hcg hl hrow
 go_enter_defers Tryz.func60,Tryz.ntmps60
 go_upto_region 2 with (fail)
 refine ah (P:=fun u=>Code.wp _ _ _ _ u) (R:=fun u=>Blk u w.heap.size 33 #[.slice A ts.length c,.slice o.vA 0 o.vc,.slice o.iA o.idx.length o.ic,.slice o.sA o.skt.length o.sc,.slice o.cA o.cch.length o.cc,.slice o.rA o.rel.length o.rc,.slice o.tA o.str.length o.tc,.slice o.bA o.bak.length o.bc]∧Below w.heap.size w u) ⟨?_,?_⟩ ?_
 ·exact Blk.new _ _ _
 ·exact ai
 rintro W ⟨hC,hbW⟩
 have hzC:=hC.lt
 have HC:=qh hC
 obtain⟨p0,p1,p2,p3,p4,p5,p6,p7⟩:=Cat.fU hC
 clear hC
 go_upto_region 5 with (first
  | (go_at_call 72;(with_reducible refine(HCG.out.prog _ hbW).mono ?_);rintro e w1 ⟨rfl,hb1⟩;have hz1:=hb1.size;have hx1:Below w.heap.size w w1:=aa hbW hb1 hbW.size;clear p0 p1 p2 p3 p4 p5 p6 p7;obtain⟨p0,p1,p2,p3,p4,p5,p6,p7⟩:=Cat.fU (HC.out.below hb1 hzC))
  | (go_at_call 75;(with_reducible refine(pg A c ts.length ts _ (HT.out.next hx1) rfl HS.out HOK.out).mono ?_);rintro e w2 ⟨⟨p,mb,fb,rfl,hS2⟩,hb2⟩;have hz2:=hb2.size;have hx2:Below w.heap.size w w2:=aa hx1 hb2 hx1.size;have HS2:=qh hS2;clear hS2 p0 p1 p2 p3 p4 p5 p6 p7))
 clear Xj Xi
 have hpl:=HS2.out.sch.blk.lt
 have hml:=HS2.out.sch.nums.lt
 have hfl:=HS2.out.blk.lt
 have hzw:w.heap.size≤w1.heap.size:=by have:=hx1.size;omega
 go_wp2_with fail
 go_loopw [20] (fun vi wr =>∃(i:Nat) (F:List Fx),i≤l.length∧vi=.int .i64 i∧jq wr w1.heap.size p mb fb A c ts o F∧Below w.heap.size w wr∧w2.heap.size≤wr.heap.size∧(∀j (h:j<l.length),j<i→nK ts l j h)) (fun vi _=>l.length-(intOf vi).toNat)
 case atStart=>exact⟨0,_,Nat.zero_le _,rfl,HS2.out,hx2,Nat.le_refl _,fun j _ h=>by omega⟩
 case round =>
  obtain⟨i,F,hi,rfl,hSF,hbr,hzr,hpre⟩:=hrel
  have HSF:=qh hSF
  have qW:=qh hpre
  have hwz:=hbr.size
  clear hSF hpre
  by_cases hlt:i<l.length
  ·obtain⟨b5,o5,rfl,hb5,hc5⟩:=(HL.out.1.below hbr).get hlt
   obtain⟨⟨q0,q1,q2,q3⟩,q4,⟨q5,q6,q7⟩,q8,q9,q10,q11⟩:=Chg.mg hc5
   have hR:=HL.out.2 l[i] (lgm hlt)
   have hrl:=iV.out l[i] (lgm hlt)
   have hno:¬ nK ts l i hlt→¬ bK ts l:=fun h k=>h (k.at_ i hlt)
   have hun:nK ts l i hlt→aV ts l[i]=0∧(∀h0:0<i,l[i-1].seq<l[i].seq∧l[i-1].day≤l[i].day):=fun h=>⟨h.form,h.asc⟩
   have hmk:aV ts l[i]=0→(∀h0:0<i,l[i-1].seq<l[i].seq∧l[i-1].day≤l[i].day)→nK ts l i hlt:=fun h k=>⟨h,k⟩
   obtain⟨⟨kd,sq,dy,tb,A0,cp,row,key,cl,vl⟩,hx⟩:∃x,l[i]=x:=⟨_,rfl⟩
   rw[hx]at q0 q1 q2 q3 q4 q5 q6 q7 q8 q9 q10 q11 hR hrl hun hmk
   simp only at q0 q1 q2 q3 q4 q5 q6 q7 q8 q9 q10 q11 hR hrl hun hmk
   obtain⟨z,hz⟩:∃z,aV ts ⟨kd,sq,dy,tb,A0,cp,row,key,cl,vl⟩=z:=⟨_,rfl⟩
   have HZ:=qh hz
   have HR:=qh hR
   have Ce:=qh hno
   have HUN:=qh hun
   have HMK:=qh hmk
   clear hc5 hR hx hz hno hun hmk
   go_upto_region 8 with (fail)
   refine ah (P:=fun u=>Code.wp _ _ _ _ u) (R:=fun u=>Blk u wr.heap.size 52 (Chg.cells ⟨kd,sq,dy,tb,A0,cp,row,key,cl,vl⟩).toArray∧Below wr.heap.size wr u) ⟨?_,?_⟩ ?_
   ·exact Blk.new' spA
   ·exact ai
   clear q0 q1 q2 q3 q4 q5 q6 q7 q8 q9 q10 q11
   rintro Y ⟨hX,hbY⟩
   have hzX:=hX.lt
   have hzY:=hbY.size
   have HX:=qh hX
   have lh:Below w.heap.size w Y:=aa hbr hbY hwz
   have HSY:=qh (HSF.out.next hbY)
   have XG:w.heap.size≤fb:=by have:=HS2.out.lf;omega
   have HFM:Hid (∀x:nJ Y w1.heap.size p mb fb A c ts o,Calls Tryz.prog 76 #[.pointer (some ⟨p,0,none⟩),.agg #[.int .i64 kd,.int .i64 sq,.int .i64 dy,.int .i64 tb,.slice A0 row.length cp,.int .i64 key.kind,.int .i64 key.num,.string key.text,.int .i64 cl,.int .i64 vl.kind,.int .i64 vl.num,.string vl.text]] x.u fun e w''=>e=.returned (.int .i64 z) ∧ ∃y:nJ Y w1.heap.size p mb fb A c ts o,w''=y.u):=qh fun x=>Pb kd sq dy tb A0 cp row key cl vl w x ⟨F,HSY.out⟩ lh XG HT.out HS.out HOK.out HCG.out omA HR.out hrl HZ.out
   obtain⟨⟨q0,q1,q2,q3⟩,q4,⟨q5,q6,q7⟩,q8,q9,q10,q11⟩:=Chg.eF hX
   simp only at q0 q1 q2 q3 q4 q5 q6 q7 q8 q9 q10 q11
   have hk0:=P5 (w:=Y) (B:=w1.heap.size) (p:=p) (mb:=mb) (fb:=fb) (A:=A) (c:=c) (ts:=ts) (o:=o) wr.heap.size hzX omA
   clear hX
   by_cases hz0:z=0
   rotate_left
   ·have hz0':(z != 0)=true:=by simpa using hz0
    have HNO:Hid (¬ bK ts l):=qh (Ce.out fun h=>by
     have h1:=(HUN.out h).1
     rw[HZ.out]at h1
     exact hz0 h1)
    clear hz0
    refine jP (B:=w1.heap.size) (p:=p) (mb:=mb) (fb:=fb) (A:=A) (c:=c) (ts:=ts) (o:=o) krA krA ?_;(repeat(go_big_quiet_step ((go_at_call 76;with_reducible exact HFM.out _))));refine wpQuiet_nil ?_;rintro wq ⟨x,rfl⟩
    (
    have hxb:Below w.heap.size w x.u:=Below.grown lh x.g lh.size inB
    clear hk0
    clear q0 q1 q2 q3 q4 q5 q6 q7 q8 q9 q10 q11
    go_wp2_with fail
    refine leaves_cons (f:= 106) (args:= #[]) spA (by simp[go_sem]) ?_
    refine(kF _).mono ?_
    rintro e u' w'' ⟨rfl,rfl,rfl⟩
    refine⟨_,results_tmp rfl _ _ _,?_⟩
    exact⟨ax (bg HNO.out).symm,hxb⟩)
   subst hz0
   by_cases h0:0<i
   ·have hkz:decide ((0:Int)<(i:Int))=true:=by simp;omega
    have kZ:decide (0<i)=true:=by simpa using h0
    have oP:i-1<l.length:=by omega
    have nu:decide (i-1<l.length)=true:=by simpa using oP
    have hwrap:IntKind.i64.wrap ((i:Int)-1)=((i-1:Nat):Int):=by rw[show (i:Int)-1=((i-1:Nat):Int) by omega];exact IntWalk.i64_in _ omA
    obtain⟨b3,o3,he3,hb3,hc3⟩:=(HL.out.1.below lh).get oP
    injection he3 with he3
    injection he3 with he4 he5
    subst he4 he5
    obtain⟨⟨f0,f1,f2,f3⟩,f4,⟨f5,f6,f7⟩,f8,f9,f10,f11⟩:=Chg.mg hc3
    obtain⟨⟨pk,ps,pd,pt,PA,pp,NZ,N8,pc,pv⟩,hpx⟩:∃x,l[i-1]=x:=⟨_,rfl⟩
    rw[hpx]at f0 f1 f2 f3 f4 f5 f6 f7 f8 f9 f10 f11
    simp only at f0 f1 f2 f3 f4 f5 f6 f7 f8 f9 f10 f11
    obtain⟨fo,hfo⟩:∃fo,(decide (ps<sq)&&decide (pd≤dy))=fo:=⟨_,rfl⟩
    have HFO:=qh hfo
    have HPS:Hid (l[i-1].seq=ps∧l[i-1].day=pd):=qh (by rw[hpx];exact⟨rfl,rfl⟩)
    have HFL:Hid (∀x:nJ Y w1.heap.size p mb fb A c ts o,Calls Tryz.prog 107 #[.agg #[.int .i64 pk,.int .i64 ps,.int .i64 pd,.int .i64 pt,.slice PA NZ.length pp,.int .i64 N8.kind,.int .i64 N8.num,.string N8.text,.int .i64 pc,.int .i64 pv.kind,.int .i64 pv.num,.string pv.text],.agg #[.int .i64 kd,.int .i64 sq,.int .i64 dy,.int .i64 tb,.slice A0 row.length cp,.int .i64 key.kind,.int .i64 key.num,.string key.text,.int .i64 cl,.int .i64 vl.kind,.int .i64 vl.num,.string vl.text]] x.u fun e w''=>e=.returned (.bool fo) ∧ ∃y:nJ Y w1.heap.size p mb fb A c ts o,w''=y.u):=qh fun x=>FJ ⟨pk,ps,pd,pt,PA,pp,NZ,N8,pc,pv⟩ ⟨kd,sq,dy,tb,A0,cp,row,key,cl,vl⟩ x hfo
    have hk1:=P5 (w:=Y) (B:=w1.heap.size) (p:=p) (mb:=mb) (fb:=fb) (A:=A) (c:=c) (ts:=ts) (o:=o) b5 omA omA
    clear hc3 hpx hfo
    cases fo
    ·have HNO:Hid (¬ bK ts l):=qh (Ce.out fun h=>by
      have h2:=(HUN.out h).2 h0
      rw[HPS.out.1,HPS.out.2]at h2
      have h3:=HFO.out
      rw[decide_eq_true h2.1,decide_eq_true h2.2]at h3
      cases h3)
     clear h0
     refine jP (B:=w1.heap.size) (p:=p) (mb:=mb) (fb:=fb) (A:=A) (c:=c) (ts:=ts) (o:=o) krA krA ?_;(repeat(go_big_quiet_step ((first|(go_at_call 76;with_reducible exact HFM.out _)|(go_at_call 107;with_reducible exact HFL.out _)))));refine wpQuiet_nil ?_;rintro wq ⟨x,rfl⟩
     clear f0 f1 f2 f3 f4 f5 f6 f7 f8 f9 f10 f11 hk1 hkz kZ nu hwrap
     (
     have hxb:Below w.heap.size w x.u:=Below.grown lh x.g lh.size inB
     clear hk0
     clear q0 q1 q2 q3 q4 q5 q6 q7 q8 q9 q10 q11
     go_wp2_with fail
     refine leaves_cons (f:= 106) (args:= #[]) spA (by simp[go_sem]) ?_
     refine(kF _).mono ?_
     rintro e u' w'' ⟨rfl,rfl,rfl⟩
     refine⟨_,results_tmp rfl _ _ _,?_⟩
     exact⟨ax (bg HNO.out).symm,hxb⟩)
    ·have lH:Hid (nK ts l i hlt):=qh (HMK.out HZ.out fun h0=>by
      have h3:=HFO.out
      simp only[Bool.and_eq_true,decide_eq_true_eq]at h3
      rw[HPS.out.1,HPS.out.2]
      exact h3)
     clear h0
     refine jP (B:=w1.heap.size) (p:=p) (mb:=mb) (fb:=fb) (A:=A) (c:=c) (ts:=ts) (o:=o) krA krA ?_;(repeat(go_big_quiet_step ((first|(go_at_call 76;with_reducible exact HFM.out _)|(go_at_call 107;with_reducible exact HFL.out _)))));refine wpQuiet_nil ?_;rintro wq ⟨x,rfl⟩
     clear f0 f1 f2 f3 f4 f5 f6 f7 f8 f9 f10 f11 hk1 hkz kZ nu hwrap
     (
     have hxb:Below w.heap.size w x.u:=Below.grown lh x.g lh.size inB
     have hxz:=x.g.size
     obtain⟨F5,hS5⟩:=x.s ⟨F,HSY.out⟩
     have HS5:=qh hS5
     clear hk0 hS5
     clear q0 q1 q2 q3 q4 q5 q6 q7 q8 q9 q10 q11
     go_wp2_with fail
     go_roundw
     case rel=>exact⟨i+1,F5,by omega,by go_num,HS5.out,hxb,by omega,fun j h hj=>by
      rcases Nat.lt_or_ge j i with h1|h1
      ·exact qW.out j h h1
      ·obtain rfl:j=i:=by omega
       exact lH.out⟩
     case measure=>exact meA)
   ·have hkz:decide ((0:Int)<(i:Int))=false:=by simp;omega
    have kZ:decide (0<i)=false:=by simpa using h0
    have lH:Hid (nK ts l i hlt):=qh (HMK.out HZ.out fun h=>absurd h h0)
    clear h0
    refine jP (B:=w1.heap.size) (p:=p) (mb:=mb) (fb:=fb) (A:=A) (c:=c) (ts:=ts) (o:=o) krA krA ?_;(repeat(go_big_quiet_step ((go_at_call 76;with_reducible exact HFM.out _))));refine wpQuiet_nil ?_;rintro wq ⟨x,rfl⟩
    clear hkz kZ
    (
    have hxb:Below w.heap.size w x.u:=Below.grown lh x.g lh.size inB
    have hxz:=x.g.size
    obtain⟨F5,hS5⟩:=x.s ⟨F,HSY.out⟩
    have HS5:=qh hS5
    clear hk0 hS5
    clear q0 q1 q2 q3 q4 q5 q6 q7 q8 q9 q10 q11
    go_wp2_with fail
    go_roundw
    case rel=>exact⟨i+1,F5,by omega,by go_num,HS5.out,hxb,by omega,fun j h hj=>by
     rcases Nat.lt_or_ge j i with h1|h1
     ·exact qW.out j h h1
     ·obtain rfl:j=i:=by omega
      exact lH.out⟩
    case measure=>exact meA)
  ·have hlt':decide (i<l.length)=false:=by simpa using hlt
   have hie:i=l.length:=by omega
   have lH:Hid (bK ts l):=qh ⟨HOK.out,by omega,fun j h=>qW.out j h omA⟩
   clear hie
   go_wp2_with fail
   refine leaves_cons (f:= 106) (args:= #[]) spA (by simp[go_sem]) ?_
   refine(kF _).mono ?_
   rintro e u' w'' ⟨rfl,rfl,rfl⟩
   refine⟨_,results_tmp rfl _ _ _,?_⟩
   exact⟨ax (bV lH.out).symm,hbr⟩
end Go.Proofs.YtjidligipoldeaaGreat
