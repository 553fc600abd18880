/-
  Contracts and plain laws of this seat, part 54.
-/
import Derived.Test.YtebippoohpnjkaaGreatF17
set_option linter.unusedVariables false
set_option linter.unusedSimpArgs false
set_option maxRecDepth 100000
set_option maxHeartbeats 16000000
namespace Go.Proofs.YtebippoohpnjkaaGreat
open Go.RowKit
variable {o:Oth}
structure mZ (ts:List Tab) (l:List Chg) (i:Nat) (h:i<l.length):Prop where
 form:bq ts l[i]=0
 asc:∀(h0:0<i),l[i-1].seq<l[i].seq∧l[i-1].day≤l[i].day
structure kC (ts:List Tab) (l:List Chg):Prop where
 cat:aV ts
 len:l.length≤1024
 at_:∀i (h:i<l.length),mZ ts l i h
theorem yX(A:Option Addr)(c m:Nat)(ts:List Tab)(LA:Option Addr)(lc n:Nat)(l:List Chg)(w:World)(ht:aJ w w.heap.size A ts)(hm:ts.length=m)(hs:aI ts)(iN:aV ts)(hcg:dZ w w.heap.size A c ts o)(hl:dh w w.heap.size LA l)(hn:l.length=n)(hn6:n≤1000000)(hrow:∀x∈l,x.row.length≤1000000){r:Bool}(hr:pb (kC ts l)=r):
 Calls Tryz.prog 39 #[.agg #[.slice A m c,.slice o.vA 0 o.vc,.slice o.iA o.idx.length o.ic,.slice o.sA o.skt.length o.sc,.slice o.cA o.cch.length o.cc,.slice o.rA o.rel.length o.rc,.slice o.tA o.str.length o.tc,.slice o.bA o.bak.length o.bc],.slice LA n lc] w fun e w'=>e=.returned (.bool r)∧Below w.heap.size w w':=by
 subst hm hn hr
 have HT:=qh ht
 have HS:=qh hs
 have HL:=qh hl
 have jy:=qh hrow
 clear ht hs hl hrow
 have uV:=qh iN
 have HCG:=qh hcg
 clear iN hcg
 by_cases hlen:1024<l.length
 ·have HNO:Hid (¬ kC ts l):=qh fun h=>by have:=h.len;omega
  have hlen':decide (1024<l.length)=true:=by simpa using hlen
  have O0:decide ((1024:Int)<(l.length:Int))=true:=by simp;omega
  clear hlen
  go_enter Tryz.func39,Tryz.ntmps39
  go_wp2_with fail
  (with_reducible refine(HCG.out.ref _ ak).mono ?_)
  rintro e w1 ⟨rfl,hb1⟩
  have hx1:Below w.heap.size w w1:=ae ak hb1 leA
  go_wp2_with fail
  go_ret
  exact⟨ay (aM HNO.out).symm,hx1⟩
 have hlen':decide (1024<l.length)=false:=by simpa using hlen
 have O0:decide ((1024:Int)<(l.length:Int))=false:=by simp;omega
 go_enter Tryz.func39,Tryz.ntmps39
 go_wp2_with fail
 (with_reducible refine(HCG.out.ref _ ak).mono ?_)
 rintro e W ⟨rfl,hb1⟩
 have hbW:Below w.heap.size w W:=ae ak hb1 leA
 have hB:Blk W w.heap.size 39 #[.slice A ts.length c,.slice o.vA 0 o.vc,.slice o.iA o.idx.length o.ic,.slice o.sA o.skt.length o.sc,.slice o.cA o.cch.length o.cc,.slice o.rA o.rel.length o.rc,.slice o.tA o.str.length o.tc,.slice o.bA o.bak.length o.bc]:=(Blk.new _ _ _).below hb1 spA
 have hzW:=hB.lt
 have HB:=qh hB
 clear hB hb1
 go_wp2_with fail
 clear hlen' O0
 go_loopw [5] (fun vi wr =>∃i:Nat,i≤l.length∧vi=.int .i64 i∧Below W.heap.size W wr∧(∀j (h:j<l.length),j<i→mZ ts l j h)) (fun vi _=>l.length-(intOf vi).toNat)
 case atStart=>exact⟨0,Nat.zero_le _,rfl,Below.refl _ _,fun j _ h=>by omega⟩
 case round =>
  obtain⟨i,hi,rfl,hbr,hpre⟩:=hrel
  have jY:=qh hpre
  have hxr:=ae hbW hbr hbW.size
  have hwz:=hbr.size
  clear hpre
  by_cases hlt:i<l.length
  ·have hlt':decide (i<l.length)=true:=by simpa using hlt
   obtain⟨b,o9,rfl,hb,hc⟩:=(HL.out.1.below hxr).get hlt
   obtain⟨⟨q0,q1,q2,q3⟩,q4,⟨q5,q6,q7⟩,q8,q9,q10,q11⟩:=Chg.dE hc
   have sZ:=HL.out.2 l[i] (lgm hlt)
   have hrl:=jy.out l[i] (lgm hlt)
   have hno:¬ mZ ts l i hlt→¬ kC ts l:=fun h k=>h (k.at_ i hlt)
   have hun:mZ ts l i hlt→bq ts l[i]=0∧(∀h0:0<i,l[i-1].seq<l[i].seq∧l[i-1].day≤l[i].day):=fun h=>⟨h.form,h.asc⟩
   have hmk:bq ts l[i]=0→(∀h0:0<i,l[i-1].seq<l[i].seq∧l[i-1].day≤l[i].day)→mZ ts l i hlt:=fun h k=>⟨h,k⟩
   obtain⟨⟨kd,sq,dy,tb,A0,cp,row,key,cl,vl⟩,hy⟩:∃x:Chg,l[i]=x:=⟨_,rfl⟩
   rw[hy]at q0 q1 q2 q3 q4 q5 q6 q7 q8 q9 q10 q11 sZ hrl hun hmk
   simp only at q0 q1 q2 q3 q4 q5 q6 q7 q8 q9 q10 q11 sZ hrl hun hmk
   have wz:=qh hno
   have HUN:=qh hun
   have HMK:=qh hmk
   have HRI:=qh sZ
   clear hc hy sZ hno hun hmk
   obtain⟨p0,p1,p2,p3,p4,p5,p6,p7⟩:=Cat.aZ (HB.out.below hbr hzW)
   have hk0:=aH (w:=wr) w.heap.size omA
   have hbz:=hxr.size
   have hk1:=aH (w:=wr) b omA
   obtain⟨z,hz⟩:∃z,bq ts ⟨kd,sq,dy,tb,A0,cp,row,key,cl,vl⟩=z:=⟨_,rfl⟩
   have HZ:=qh hz
   have HFC:Hid (∀x:bH wr,Calls Tryz.prog 55 #[.agg #[.slice A ts.length c,.slice o.vA 0 o.vc,.slice o.iA o.idx.length o.ic,.slice o.sA o.skt.length o.sc,.slice o.cA o.cch.length o.cc,.slice o.rA o.rel.length o.rc,.slice o.tA o.str.length o.tc,.slice o.bA o.bak.length o.bc],.agg #[.int .i64 kd,.int .i64 sq,.int .i64 dy,.int .i64 tb,.slice A0 row.length cp,.int .i64 key.kind,.int .i64 key.num,.string key.text,.int .i64 cl,.int .i64 vl.kind,.int .i64 vl.num,.string vl.text]] x.u fun e w''=>e=.returned (.int .i64 z) ∧ ∃y:bH wr,w''=y.u):=qh fun x=>bN (kY A c ts.length ts kd sq dy tb A0 cp row key cl vl _ (HT.out.next (ae hxr x.h hxr.size)) rfl HS.out uV.out (HCG.out.next (ae hxr x.h hxr.size)) ((HRI.out.below (ae hxr x.h hxr.size)).mono (Nat.le_trans hxr.size x.h.size)) hrl HZ.out)
   clear hz
   cases hz0:(z != 0)
   rotate_left
   ·have HNO:Hid (¬ kC ts l):=qh (wz.out fun h=>by
     have h1:=(HUN.out h).1
     rw[HZ.out]at h1
     rw[h1]at hz0
     cases hz0)
    go_upto_region 6 with (fail)
    refine ag krA krA ?_;(repeat(go_big_quiet_step ((go_at_call 55;with_reducible exact HFC.out _))));refine wpQuiet_nil ?_;intro wq hq
    (
    clear hk0 hk1 p0 p1 p2 p3 p4 p5 p6 p7 q0 q1 q2 q3 q4 q5 q6 q7 q8 q9 q10 q11
    go_wp2_with fail
    go_ret
    exact⟨ay (aM HNO.out).symm,ae hxr hq hxr.size⟩)
   have hzz:z=0:=by simpa using hz0
   have HFZ:Hid (bq ts ⟨kd,sq,dy,tb,A0,cp,row,key,cl,vl⟩=0):=qh (HZ.out.trans hzz)
   clear hzz
   by_cases h0:0<i
   ·have hkz:decide ((0:Int)<(i:Int))=true:=by simp;omega
    have j5:decide (0<i)=true:=by simpa using h0
    have oC:i-1<l.length:=by omega
    have lu:decide (i-1<l.length)=true:=by simpa using oC
    have hwrap:IntKind.i64.wrap ((i:Int)-1)=((i-1:Nat):Int):=by rw[show (i:Int)-1=((i-1:Nat):Int) by omega];exact IntWalk.i64_in _ omA
    obtain⟨b3,o3,he3,_,hc3⟩:=(HL.out.1.below hxr).get oC
    injection he3 with he3
    injection he3 with he4 he5
    subst he4 he5
    obtain⟨⟨_,f1,f2,_⟩,_,_,_,_,_,_⟩:=Chg.dE hc3
    obtain⟨ps,hps⟩:∃s,l[i-1].seq=s:=⟨_,rfl⟩
    obtain⟨pd,hpd⟩:∃s,l[i-1].day=s:=⟨_,rfl⟩
    rw[hps]at f1
    rw[hpd]at f2
    have HPS:=qh hps
    have HPD:=qh hpd
    clear hc3 hps hpd
    cases h1:decide (sq≤ps)
    rotate_left
    ·have HNO:Hid (¬ kC ts l):=qh (wz.out fun h=>by
      have h2:=((HUN.out h).2 h0).1
      have h3:=of_decide_eq_true h1
      rw[HPS.out]at h2
      omega)
     clear h0
     go_upto_region 6 with (fail)
     refine ag krA krA ?_;(repeat(go_big_quiet_step ((go_at_call 55;with_reducible exact HFC.out _))));refine wpQuiet_nil ?_;intro wq hq
     clear f1 f2 hkz j5 lu hwrap h1
     (
     clear hk0 hk1 p0 p1 p2 p3 p4 p5 p6 p7 q0 q1 q2 q3 q4 q5 q6 q7 q8 q9 q10 q11
     go_wp2_with fail
     go_ret
     exact⟨ay (aM HNO.out).symm,ae hxr hq hxr.size⟩)
    cases h2:decide (dy<pd)
    rotate_left
    ·have HNO:Hid (¬ kC ts l):=qh (wz.out fun h=>by
      have h2':=((HUN.out h).2 h0).2
      have h3:=of_decide_eq_true h2
      rw[HPD.out]at h2'
      omega)
     clear h0
     go_upto_region 6 with (fail)
     refine ag krA krA ?_;(repeat(go_big_quiet_step ((go_at_call 55;with_reducible exact HFC.out _))));refine wpQuiet_nil ?_;intro wq hq
     clear f1 f2 hkz j5 lu hwrap h1 h2
     (
     clear hk0 hk1 p0 p1 p2 p3 p4 p5 p6 p7 q0 q1 q2 q3 q4 q5 q6 q7 q8 q9 q10 q11
     go_wp2_with fail
     go_ret
     exact⟨ay (aM HNO.out).symm,ae hxr hq hxr.size⟩)
    have iV:Hid (mZ ts l i hlt):=qh (HMK.out HFZ.out fun h0=>by
     have h3:=of_decide_eq_false h1
     have h4:=of_decide_eq_false h2
     rw[HPS.out,HPD.out]
     omega)
    clear h0
    go_upto_region 6 with (fail)
    refine ag krA krA ?_;(repeat(go_big_quiet_step ((go_at_call 55;with_reducible exact HFC.out _))));refine wpQuiet_nil ?_;intro wq hq
    clear f1 f2 hkz j5 lu hwrap h1 h2
    (
    clear hk0 hk1 p0 p1 p2 p3 p4 p5 p6 p7 q0 q1 q2 q3 q4 q5 q6 q7 q8 q9 q10 q11
    go_wp2_with fail
    go_roundw
    case rel=>exact⟨i+1,by omega,by go_num,ae hbr hq hbr.size,fun j h hj=>by
     rcases Nat.lt_or_ge j i with h1|h1
     ·exact jY.out j h h1
     ·obtain rfl:j=i:=by omega
      exact iV.out⟩
    case measure=>exact meA)
   ·have hkz:decide ((0:Int)<(i:Int))=false:=by simp;omega
    have j5:decide (0<i)=false:=by simpa using h0
    have iV:Hid (mZ ts l i hlt):=qh (HMK.out HFZ.out fun h=>absurd h h0)
    clear h0
    go_upto_region 6 with (fail)
    refine ag krA krA ?_;(repeat(go_big_quiet_step ((go_at_call 55;with_reducible exact HFC.out _))));refine wpQuiet_nil ?_;intro wq hq
    clear hkz j5
    (
    clear hk0 hk1 p0 p1 p2 p3 p4 p5 p6 p7 q0 q1 q2 q3 q4 q5 q6 q7 q8 q9 q10 q11
    go_wp2_with fail
    go_roundw
    case rel=>exact⟨i+1,by omega,by go_num,ae hbr hq hbr.size,fun j h hj=>by
     rcases Nat.lt_or_ge j i with h1|h1
     ·exact jY.out j h h1
     ·obtain rfl:j=i:=by omega
      exact iV.out⟩
    case measure=>exact meA)
  ·have hlt':decide (i<l.length)=false:=by simpa using hlt
   have hie:i=l.length:=by omega
   have iV:Hid (kC ts l):=qh ⟨uV.out,by omega,fun j h=>jY.out j h omA⟩
   clear hie
   go_wp2_with fail
   go_ret
   exact⟨ay (aU iV.out).symm,hxr⟩
end Go.Proofs.YtebippoohpnjkaaGreat
