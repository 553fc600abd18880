/-
  Contracts and plain laws of this seat, part 85.
-/
import Derived.Test.YtjidligipoldeaaGreatT17
set_option linter.unusedVariables false
set_option linter.unusedSimpArgs false
set_option maxRecDepth 100000
set_option maxHeartbeats 16000000
namespace Go.Proofs.YtjidligipoldeaaGreat
open Go.RowKit Go
theorem jb(v:Val)(x:Col)(w:World){r:Bool}(hr:dz v x.ty=r):
 Calls Tryz.prog 158 #[.agg #[.int .i64 v.kind,.int .i64 v.num,.string v.text],.agg #[.string x.name,.int .i64 x.ty,.string x.ns,.string x.refs,.slice x.A x.own.length x.cap,.int .i64 x.joint,.int .i64 x.gW]] w fun e w'=>e=.returned (.bool r)∧Below w.heap.size w w':=by
 subst hr
 cases h1:(v.kind == 0)
 ·cases h2:(v.kind==x.ty)
  ·go_enter Tryz.func158,Tryz.ntmps158
   go_wp2_with fail
   go_ret
   exact⟨ax (by simp only[dz,h1,h2];rfl),by exact ai⟩
  ·go_enter Tryz.func158,Tryz.ntmps158
   go_wp2_with fail
   go_ret
   exact⟨ax (by simp only[dz,h1,h2];rfl),by exact ai⟩
 ·go_enter Tryz.func158,Tryz.ntmps158
  go_wp2_with fail
  go_ret
  exact⟨ax (by simp only[dz,h1];rfl),by exact ai⟩
theorem iE(v:Val)(w:World){r:Bool}(hr:bT v=r):Calls Tryz.prog 126 #[.agg #[.int .i64 v.kind,.int .i64 v.num,.string v.text]] w fun e w'=>e=.returned (.bool r)∧Ext w w':=by
 subst hr
 exact vU _ _ _ _
theorem xq(a b:Val)(w:World){r:Int}(hr:aU a b=r):Calls Tryz.prog 135 #[.agg #[.int .i64 a.kind,.int .i64 a.num,.string a.text],.agg #[.int .i64 b.kind,.int .i64 b.num,.string b.text]] w fun e w'=>e=.returned (.int .i64 r)∧Ext w w':=by
 subst hr
 exact zh _ _ _ _ _ _ _
open Go.RowKit Go
variable {o:Oth}
structure wH (w:World) (p mb fb k:Nat) (A:Option Addr) (c:Nat) (ts:List Tab) (o:Oth):Prop where
 blk:Blk w p 174 #[.slice A ts.length c,.slice o.vA 0 o.vc,.slice o.iA o.idx.length o.ic,.slice o.sA o.skt.length o.sc,.slice o.cA o.cch.length o.cc,.slice o.rA o.rel.length o.rc,.slice o.tA o.str.length o.tc,.slice o.bA o.bak.length o.bc,.map (some mb),.slice (some ⟨fb,0,none⟩) ts.length ts.length]
 nums:dP Tryz.prog 9 3 w mb k (nZ ts k)
theorem wH.next{w w':World}{p mb fb k:Nat}{A:Option Addr}{c:Nat}{ts:List Tab}(h:wH w p mb fb k A c ts o)(hb:Below w.heap.size w w'):wH w' p mb fb k A c ts o:=
 ⟨h.blk.below hb h.blk.lt,h.nums.below hb h.nums.lt⟩
theorem Sch.blk{w:World}{g:Nat}{a0 a1 a2 a3 a4 a5 a6 a7 a8 a9:Value}(k:Blk w g 174 #[a0,a1,a2,a3,a4,a5,a6,a7,a8,a9]):
 w.cell? ⟨g,0,none⟩=some a0∧w.cell? ⟨g,8,none⟩=some a8∧w.cell? ⟨g,9,none⟩=some a9:=⟨k.cell 0,k.cell 8,k.cell 9⟩
theorem LV:(Tryz.prog.info? 22).map (fun i=>(i.zero,i.size,i.bytes))=some (some (.slice none 0 0),1,24):=by kernel_rfl
variable {o:Oth}
structure nK (ts:List Tab) (l:List Chg) (i:Nat) (h:i<l.length):Prop where
 form:aV ts l[i]=0
 asc:∀(h0:0<i),l[i-1].seq<l[i].seq∧l[i-1].day≤l[i].day
structure bK (ts:List Tab) (l:List Chg):Prop where
 cat:aN ts
 len:l.length≤1024
 at_:∀i (h:i<l.length),nK ts l i h
theorem zt(A:Option Addr)(c m:Nat)(ts:List Tab)(LA:Option Addr)(lc n:Nat)(l:List Chg)(w:World)(ht:aF w w.heap.size A ts)(hm:ts.length=m)(hs:aM ts)(il:aN ts)(hcg:gF w w.heap.size A c ts o)(hl:dQ w w.heap.size LA l)(hn:l.length=n)(hn6:n≤1000000)(hrow:∀x∈l,x.row.length≤1000000){r:Bool}(hr:pb (bK ts l)=r):
 Calls Tryz.prog 69 #[.agg #[.slice A m c,.slice o.vA 0 o.vc,.slice o.iA o.idx.length o.ic,.slice o.sA o.skt.length o.sc,.slice o.cA o.cch.length o.cc,.slice o.rA o.rel.length o.rc,.slice o.tA o.str.length o.tc,.slice o.bA o.bak.length o.bc],.slice LA n lc] w fun e w'=>e=.returned (.bool r)∧Below w.heap.size w w':=by
 subst hm hn hr
 have HT:=qh ht
 have HS:=qh hs
 have HL:=qh hl
 have iV:=qh hrow
 clear ht hs hl hrow
 have vS:=qh il
 have HCG:=qh hcg
 clear il hcg
 by_cases hlen:1024<l.length
 ·have HNO:Hid (¬ bK ts l):=qh fun h=>by have:=h.len;omega
  have hlen':decide (1024<l.length)=true:=by simpa using hlen
  have Qf:decide ((1024:Int)<(l.length:Int))=true:=by simp;omega
  clear hlen
  go_enter Tryz.func69,Tryz.ntmps69
  go_wp2_with fail
  (with_reducible refine(HCG.out.ref _ ai).mono ?_)
  rintro e w1 ⟨rfl,hb1⟩
  have hx1:Below w.heap.size w w1:=aa ai hb1 leA
  go_wp2_with fail
  go_ret
  exact⟨ax (bg HNO.out).symm,hx1⟩
 have hlen':decide (1024<l.length)=false:=by simpa using hlen
 have Qf:decide ((1024:Int)<(l.length:Int))=false:=by simp;omega
 go_enter Tryz.func69,Tryz.ntmps69
 go_wp2_with fail
 (with_reducible refine(HCG.out.ref _ ai).mono ?_)
 rintro e W ⟨rfl,hb1⟩
 have hbW:Below w.heap.size w W:=aa ai hb1 leA
 have hB:Blk W w.heap.size 33 #[.slice A ts.length c,.slice o.vA 0 o.vc,.slice o.iA o.idx.length o.ic,.slice o.sA o.skt.length o.sc,.slice o.cA o.cch.length o.cc,.slice o.rA o.rel.length o.rc,.slice o.tA o.str.length o.tc,.slice o.bA o.bak.length o.bc]:=(Blk.new _ _ _).below hb1 spA
 have hzW:=hB.lt
 have HB:=qh hB
 clear hB hb1
 go_wp2_with fail
 clear hlen' Qf
 go_loopw [5] (fun vi wr =>∃i:Nat,i≤l.length∧vi=.int .i64 i∧Below W.heap.size W wr∧(∀j (h:j<l.length),j<i→nK ts l j h)) (fun vi _=>l.length-(intOf vi).toNat)
 case atStart=>exact⟨0,Nat.zero_le _,rfl,Below.refl _ _,fun j _ h=>by omega⟩
 case round =>
  obtain⟨i,hi,rfl,hbr,hpre⟩:=hrel
  have qW:=qh hpre
  have hxr:=aa hbW hbr hbW.size
  have hwz:=hbr.size
  clear hpre
  by_cases hlt:i<l.length
  ·have hlt':decide (i<l.length)=true:=by simpa using hlt
   obtain⟨b,o9,rfl,hb,hc⟩:=(HL.out.1.below hxr).get hlt
   obtain⟨⟨q0,q1,q2,q3⟩,q4,⟨q5,q6,q7⟩,q8,q9,q10,q11⟩:=Chg.mg hc
   have Br:=HL.out.2 l[i] (lgm hlt)
   have hrl:=iV.out l[i] (lgm hlt)
   have hno:¬ nK ts l i hlt→¬ bK ts l:=fun h k=>h (k.at_ i hlt)
   have hun:nK ts l i hlt→aV ts l[i]=0∧(∀h0:0<i,l[i-1].seq<l[i].seq∧l[i-1].day≤l[i].day):=fun h=>⟨h.form,h.asc⟩
   have hmk:aV ts l[i]=0→(∀h0:0<i,l[i-1].seq<l[i].seq∧l[i-1].day≤l[i].day)→nK ts l i hlt:=fun h k=>⟨h,k⟩
   obtain⟨⟨kd,sq,dy,tb,A0,cp,row,key,cl,vl⟩,hy⟩:∃x:Chg,l[i]=x:=⟨_,rfl⟩
   rw[hy]at q0 q1 q2 q3 q4 q5 q6 q7 q8 q9 q10 q11 Br hrl hun hmk
   simp only at q0 q1 q2 q3 q4 q5 q6 q7 q8 q9 q10 q11 Br hrl hun hmk
   have Ce:=qh hno
   have HUN:=qh hun
   have HMK:=qh hmk
   have HRI:=qh Br
   clear hc hy Br hno hun hmk
   obtain⟨p0,p1,p2,p3,p4,p5,p6,p7⟩:=Cat.fU (HB.out.below hbr hzW)
   have hk0:=az (w:=wr) w.heap.size omA
   have hbz:=hxr.size
   have hk1:=az (w:=wr) b omA
   obtain⟨z,hz⟩:∃z,aV ts ⟨kd,sq,dy,tb,A0,cp,row,key,cl,vl⟩=z:=⟨_,rfl⟩
   have HZ:=qh hz
   have HFC:Hid (∀x:cZ wr,Calls Tryz.prog 41 #[.agg #[.slice A ts.length c,.slice o.vA 0 o.vc,.slice o.iA o.idx.length o.ic,.slice o.sA o.skt.length o.sc,.slice o.cA o.cch.length o.cc,.slice o.rA o.rel.length o.rc,.slice o.tA o.str.length o.tc,.slice o.bA o.bak.length o.bc],.agg #[.int .i64 kd,.int .i64 sq,.int .i64 dy,.int .i64 tb,.slice A0 row.length cp,.int .i64 key.kind,.int .i64 key.num,.string key.text,.int .i64 cl,.int .i64 vl.kind,.int .i64 vl.num,.string vl.text]] x.u fun e w''=>e=.returned (.int .i64 z) ∧ ∃y:cZ wr,w''=y.u):=qh fun x=>dN (nT A c ts.length ts kd sq dy tb A0 cp row key cl vl _ (HT.out.next (aa hxr x.h hxr.size)) rfl HS.out vS.out (HCG.out.next (aa hxr x.h hxr.size)) ((HRI.out.below (aa hxr x.h hxr.size)).mono (Nat.le_trans hxr.size x.h.size)) hrl HZ.out)
   clear hz
   cases hz0:(z != 0)
   rotate_left
   ·have HNO:Hid (¬ bK ts l):=qh (Ce.out fun h=>by
     have h1:=(HUN.out h).1
     rw[HZ.out]at h1
     rw[h1]at hz0
     cases hz0)
    go_upto_region 6 with (fail)
    refine af krA krA ?_;(repeat(go_big_quiet_step ((go_at_call 41;with_reducible exact HFC.out _))));refine wpQuiet_nil ?_;intro wq hq
    (
    clear hk0 hk1 p0 p1 p2 p3 p4 p5 p6 p7 q0 q1 q2 q3 q4 q5 q6 q7 q8 q9 q10 q11
    go_wp2_with fail
    go_ret
    exact⟨ax (bg HNO.out).symm,aa hxr hq hxr.size⟩)
   have hzz:z=0:=by simpa using hz0
   have HFZ:Hid (aV ts ⟨kd,sq,dy,tb,A0,cp,row,key,cl,vl⟩=0):=qh (HZ.out.trans hzz)
   clear hzz
   by_cases h0:0<i
   ·have hkz:decide ((0:Int)<(i:Int))=true:=by simp;omega
    have kZ:decide (0<i)=true:=by simpa using h0
    have oP:i-1<l.length:=by omega
    have nu:decide (i-1<l.length)=true:=by simpa using oP
    have hwrap:IntKind.i64.wrap ((i:Int)-1)=((i-1:Nat):Int):=by rw[show (i:Int)-1=((i-1:Nat):Int) by omega];exact IntWalk.i64_in _ omA
    obtain⟨b3,o3,he3,_,hc3⟩:=(HL.out.1.below hxr).get oP
    injection he3 with he3
    injection he3 with he4 he5
    subst he4 he5
    obtain⟨⟨_,f1,f2,_⟩,_,_,_,_,_,_⟩:=Chg.mg hc3
    obtain⟨ps,hps⟩:∃s,l[i-1].seq=s:=⟨_,rfl⟩
    obtain⟨pd,hpd⟩:∃s,l[i-1].day=s:=⟨_,rfl⟩
    rw[hps]at f1
    rw[hpd]at f2
    have HPS:=qh hps
    have HPD:=qh hpd
    clear hc3 hps hpd
    cases h1:decide (sq≤ps)
    rotate_left
    ·have HNO:Hid (¬ bK ts l):=qh (Ce.out fun h=>by
      have h2:=((HUN.out h).2 h0).1
      have h3:=of_decide_eq_true h1
      rw[HPS.out]at h2
      omega)
     clear h0
     go_upto_region 6 with (fail)
     refine af krA krA ?_;(repeat(go_big_quiet_step ((go_at_call 41;with_reducible exact HFC.out _))));refine wpQuiet_nil ?_;intro wq hq
     clear f1 f2 hkz kZ nu hwrap h1
     (
     clear hk0 hk1 p0 p1 p2 p3 p4 p5 p6 p7 q0 q1 q2 q3 q4 q5 q6 q7 q8 q9 q10 q11
     go_wp2_with fail
     go_ret
     exact⟨ax (bg HNO.out).symm,aa hxr hq hxr.size⟩)
    cases h2:decide (dy<pd)
    rotate_left
    ·have HNO:Hid (¬ bK ts l):=qh (Ce.out fun h=>by
      have h2':=((HUN.out h).2 h0).2
      have h3:=of_decide_eq_true h2
      rw[HPD.out]at h2'
      omega)
     clear h0
     go_upto_region 6 with (fail)
     refine af krA krA ?_;(repeat(go_big_quiet_step ((go_at_call 41;with_reducible exact HFC.out _))));refine wpQuiet_nil ?_;intro wq hq
     clear f1 f2 hkz kZ nu hwrap h1 h2
     (
     clear hk0 hk1 p0 p1 p2 p3 p4 p5 p6 p7 q0 q1 q2 q3 q4 q5 q6 q7 q8 q9 q10 q11
     go_wp2_with fail
     go_ret
     exact⟨ax (bg HNO.out).symm,aa hxr hq hxr.size⟩)
    have lH:Hid (nK ts l i hlt):=qh (HMK.out HFZ.out fun h0=>by
     have h3:=of_decide_eq_false h1
     have h4:=of_decide_eq_false h2
     rw[HPS.out,HPD.out]
     omega)
    clear h0
    go_upto_region 6 with (fail)
    refine af krA krA ?_;(repeat(go_big_quiet_step ((go_at_call 41;with_reducible exact HFC.out _))));refine wpQuiet_nil ?_;intro wq hq
    clear f1 f2 hkz kZ nu hwrap h1 h2
    (
    clear hk0 hk1 p0 p1 p2 p3 p4 p5 p6 p7 q0 q1 q2 q3 q4 q5 q6 q7 q8 q9 q10 q11
    go_wp2_with fail
    go_roundw
    case rel=>exact⟨i+1,by omega,by go_num,aa hbr hq hbr.size,fun j h hj=>by
     rcases Nat.lt_or_ge j i with h1|h1
     ·exact qW.out j h h1
     ·obtain rfl:j=i:=by omega
      exact lH.out⟩
    case measure=>exact meA)
   ·have hkz:decide ((0:Int)<(i:Int))=false:=by simp;omega
    have kZ:decide (0<i)=false:=by simpa using h0
    have lH:Hid (nK ts l i hlt):=qh (HMK.out HFZ.out fun h=>absurd h h0)
    clear h0
    go_upto_region 6 with (fail)
    refine af krA krA ?_;(repeat(go_big_quiet_step ((go_at_call 41;with_reducible exact HFC.out _))));refine wpQuiet_nil ?_;intro wq hq
    clear hkz kZ
    (
    clear hk0 hk1 p0 p1 p2 p3 p4 p5 p6 p7 q0 q1 q2 q3 q4 q5 q6 q7 q8 q9 q10 q11
    go_wp2_with fail
    go_roundw
    case rel=>exact⟨i+1,by omega,by go_num,aa hbr hq hbr.size,fun j h hj=>by
     rcases Nat.lt_or_ge j i with h1|h1
     ·exact qW.out j h h1
     ·obtain rfl:j=i:=by omega
      exact lH.out⟩
    case measure=>exact meA)
  ·have hlt':decide (i<l.length)=false:=by simpa using hlt
   have hie:i=l.length:=by omega
   have lH:Hid (bK ts l):=qh ⟨vS.out,by omega,fun j h=>qW.out j h omA⟩
   clear hie
   go_wp2_with fail
   go_ret
   exact⟨ax (bV lH.out).symm,hxr⟩
theorem kX(A:Option Addr)(c m:Nat)(ts:List Tab)(LA:Option Addr)(lc n:Nat)(l:List Chg)(w:World)(ht:aF w w.heap.size A ts)(hm:ts.length=m)(hs:aM ts)(il:aN ts)(hl:dQ w w.heap.size LA l)(hn:l.length=n)(hn6:n≤1000000)(hrow:∀x∈l,x.row.length≤1000000){r:Bool}(hr:pb (bK ts l)=r):
 Calls Tryz.prog 69 #[.agg #[.slice A m c,.slice none 0 0,.slice none 0 0,.slice none 0 0,.slice none 0 0,.slice none 0 0,.slice none 0 0,.slice none 0 0],.slice LA n lc] w fun e w'=>e=.returned (.bool r)∧Below w.heap.size w w':=
 zt (o:=Oth.nil) A c m ts LA lc n l w ht hm hs il (gF.nil ht hs il) hl hn hn6 hrow hr
open Go.RowKit Go
theorem KM(A:Option Addr)(c n:Nat)(l:List Rcd)(key:Val)(w:World)(hl:bU w w.heap.size A l)(hln:l.length=n)(hn:n≤1000000)(hsr:∀x∈l,0<x.row.length∧x.row.length≤1000000)(hv:bT key=true)(hk:key.kind≠0){r:Int}(hr:gm l key=r):
 Calls Tryz.prog 80 #[.slice A n c,.agg #[.int .i64 key.kind,.int .i64 key.num,.string key.text]] w fun e w'=>e=.returned (.int .i64 r)∧Below w.heap.size w w':=by
 subst hln hr
 have hg:Tryz.prog.eqGuardType Tryz.prog.depth 50=false:=by kernel_rfl
 have HL:=qh hl
 have HSR:=qh hsr
 have hk':(key.kind != 0)=true:=by simpa using hk
 have hk0:(key.kind == 0)=false:=by simpa using hk
 have hkd:decide (key.kind=0)=false:=by simpa using hk
 have HF:Hid (gm l key=fI (gK key) l):=qh (by rw[gm,hv,hk'];rfl)
 have HV:=qh hv
 clear hl hsr hv hk hk'
 go_enter Tryz.func80,Tryz.ntmps80
 go_upto_region 1 with (fail)
 refine ah (P:=fun u=>Code.wp _ _ _ _ u) (R:=fun u=>Blk u w.heap.size 50 #[.int .i64 key.kind,.int .i64 key.num,.string key.text]∧Below w.heap.size w u) ⟨Blk.new _ _ _,by exact ai⟩ ?_
 rintro W ⟨hB,hbW⟩
 have HB:=qh hB
 have hzW:=hB.lt
 have q0:=hB.cell 0
 have q1:=hB.cell 1
 have q2:=hB.cell 2
 simp only[gE3]at q0 q1 q2
 clear hB
 go_upto_region 4 with (go_at_call 126;(with_reducible refine(iE key _ HV.out).mono ?_);rintro e w1 ⟨rfl,hb1⟩)
 have hx1:Below w.heap.size w w1:=aa hbW hb1.1 hbW.size
 have HB1:=qh (HB.out.below hb1.1 hzW)
 have hz1:=HB1.out.lt
 clear q0 q1 q2 hk0 hkd
 go_loopw [17] (fun vi wr =>∃m:Nat,m≤l.length∧vi=.int .i64 m∧Below w1.heap.size w1 wr∧(∀i (h:i<l.length),i<m→gK key l[i]=false)) (fun vi _=>l.length-(intOf vi).toNat)
 case atStart=>exact⟨0,Nat.zero_le _,rfl,Below.refl _ _,fun i _ h=>by omega⟩
 case round =>
  obtain⟨m,hm,rfl,hbr,hno⟩:=hrel
  have HNO:=qh hno
  clear hno
  have hxr:=aa hx1 hbr hx1.size
  have hwz:=hbr.size
  by_cases hlt:m<l.length
  ·have hlt':decide (m<l.length)=true:=by simpa using hlt
   have kG:decide ((m:Int)<(l.length:Int))=true:=by simp;omega
   have hrec:=HL.out.below hxr
   obtain⟨b,o,rfl,hb,hc⟩:=hrec.1.get hlt
   obtain⟨c0,c1,c2⟩:=Rcd.cells3 hc
   have hrow:=(hrec.2 l[m] (lgm hlt)).1
   obtain⟨hr0,hrl⟩:=HSR.out l[m] (lgm hlt)
   have HN1:=qh (pW (key:=key) (r:=l[m]) hr0)
   obtain⟨⟨RA,rc,row,SA,sc,sq,dy⟩,hx⟩:∃x:Rcd,l[m]=x:=⟨_,rfl⟩
   have HX:=qh hx
   rw[hx]at c0 c1 c2 hrow hrl
   simp only[hx]at hr0
   simp only at c0 c1 c2 hrow hrl
   have iV:=qh hrow
   clear hc hrec hx hrow
   go_upto_region 6 with (fail)
   refine ah (P:=fun u=>Code.wp _ _ _ _ u) (R:=fun u=>Blk u wr.heap.size 66 #[.slice RA row.length rc,.slice SA sq.length sc,.int .i64 dy]∧Below wr.heap.size wr u) ⟨Blk.new _ _ _,by exact ai⟩ ?_
   clear c0 c1 c2
   rintro u ⟨hu,hbu⟩
   have hul:=hu.lt
   have hzu:=hbu.size
   have e0:=hu.cell 0
   simp only[gE3]at e0
   have zI:Below w1.heap.size w1 u:=aa hbr hbu hwz
   have q0:=(HB1.out.below zI hz1).cell 0
   have q1:=(HB1.out.below zI hz1).cell 1
   have q2:=(HB1.out.below zI hz1).cell 2
   simp only[gE3]at q0 q1 q2
   have mM:decide (0<row.length)=true:=by simpa using hr0
   obtain⟨b6,o6,rfl,hb6,hc6⟩:=(iV.out.below (hbu.mono hxr.size)).get hr0
   obtain⟨y0,y1,y2⟩:=Val.cells3 hc6
   simp only[Nat.zero_mul,Nat.add_zero]at y0 y1 y2
   have hhit:gK key l[m]=decide (row[0]=key):=by
    have h:=HN1.out
    rw[h]
    congr 1
    simp only[HX.out]
   have hk0:=az (w:=u) wr.heap.size hul
   have hk1:=az (w:=u) b6 omA
   have hk2:=az (w:=u) w.heap.size omA
   clear hc6 hu
   cases he:decide (row[0]=key)
   ·have heq:=bu he
    have HH:Hid (gK key l[m]=false):=qh (hhit.trans he)
    clear hhit he
    refine af krA krA ?_;(repeat(go_big_quiet_step (fail)));refine wpQuiet_nil ?_;intro wq hq
    clear hk0 hk1 hk2 q0 q1 q2 e0 y0 y1 y2 heq
    go_wp2_with fail
    go_roundw
    case rel=>exact⟨m+1,by omega,by go_num,aa zI hq omA,fun i h hi=>by
     rcases Nat.lt_or_ge i m with h1|h1
     ·exact HNO.out i h h1
     ·obtain rfl:i=m:=by omega
      exact HH.out⟩
    case measure=>exact meA
   ·have heq:=bu he
    have HH:Hid (gK key l[m]=true):=qh (hhit.trans he)
    clear hhit he
    refine af krA krA ?_;(repeat(go_big_quiet_step (fail)));refine wpQuiet_nil ?_;intro wq hq
    clear hk0 hk1 hk2 q0 q1 q2 e0 y0 y1 y2 heq
    go_wp2_with fail
    go_ret
    exact⟨aS (a:=(m:Int)) (by rw[HF.out,sN hlt HH.out HNO.out]),aa hx1 (aa zI hq omA) hx1.size⟩
  ·have hlt':decide (m<l.length)=false:=by simpa using hlt
   have kG:decide ((m:Int)<(l.length:Int))=false:=by simp;omega
   go_wp2_with fail
   go_ret
   exact⟨aS (a:= -1) (by rw[HF.out,uJ fun i hi=>HNO.out i hi omA]),hxr⟩
end Go.Proofs.YtjidligipoldeaaGreat
